/- A part of the proof that the statement holds for every input that it names. No other condition. -/
import Derived.Test.YtmnkinaaoifpeaaGreatDoorUxStoAZ
import Derived.Test.YtmnkinaaoifpeaaGreatDoorMadeAZ
import Derived.Test.YtmnkinaaoifpeaaGreatDoorStoreBZ
import Derived.Test.YtmnkinaaoifpeaaGreatDoorStoreDZ
import Derived.Test.YtmnkinaaoifpeaaGreatDoorShelf5Z
set_option linter.unusedVariables false
set_option linter.unusedSimpArgs false
namespace Go.Proofs.YtmnkinaaoifpeaaGreatDoor
open Go.RowKit
def OfR (nm:ByteArray) (kind:Int) (w w':World) (e:Ending):Prop:= ∃x:ColX,e= .returned (.agg x.cells)∧x.nm=nm∧x.ty=kind∧x.nn=false∧okS x.kd x.lv x.tb=true∧Ux.Touch (fun _=>False) w w'
set_option maxHeartbeats 8000000 in
set_option maxRecDepth 100000 in
theorem colOf_ (nm:ByteArray) (kind c:Int) (hc:c=0∨c=1∨c=2) (w:World) (hT:Tabs w):Calls Tryz.prog 14 #[.string nm,.int .i64 kind,.int .i64 c] w fun e w'=>OfR nm kind w w' e:=by
 obtain ⟨b6,hb6⟩: ∃b,w.heap.size=b:=⟨_,rfl⟩
 obtain ⟨W1,hW1⟩: ∃W,w.alloc (.cells #[.string ⟨#[]⟩,.string ⟨#[]⟩,.int .i64 0,.int .i64 0,.int .i64 0,.bool false,.bool false,.pointer none,.bool false] 45)=W:=⟨_,rfl⟩
 have t1:Ux.Touch (fun _=>False) w W1:=by rw [←hW1];exact (Ux.Touch.refl _ _).alloc _
 have r1:W1.heap[b6]? =some (.cells #[.string ⟨#[]⟩,.string ⟨#[]⟩,.int .i64 0,.int .i64 0,.int .i64 0,.bool false,.bool false,.pointer none,.bool false] 45 (0,0)):=by rw [←hW1,←hb6];exact heap_alloc_new w _
 have HC:=Lib.hid (fun k=>madeS_ k 0 false false W1 (hT.touch t1))
 have H1:=Lib.hid (And.intro t1 (And.intro r1 hb6))
 clear t1 r1 hT
 rcases hc with rfl|rfl|rfl
 case inl=>
  go_enter Tryz.func14,Tryz.ntmps14
  go_upto_region 1 with (fail)
  clear hb6 hW1
  have hbt:bits .and .i64 0 65535=0:=by decide+kernel
  go_wp2_with (go_at_call 37;fail)
  refine (HC.out 1).mono ?_
  rintro e w3 ⟨kd,LN,sh,bk,tb,x,n,m,rfl,hok,T3⟩
  simp only [cS,rcV]
  obtain ⟨b7,hb7⟩: ∃b,w3.heap.size=b:=⟨_,rfl⟩
  obtain ⟨W4,hW4⟩: ∃W,w3.alloc (.cells #[.int .i64 0,.int .i64 0,.bool false,.bool false,.pointer none] 43)=W:=⟨_,rfl⟩
  obtain ⟨b8,hb8⟩: ∃b,W4.heap.size=b:=⟨_,rfl⟩
  obtain ⟨W5,hW5⟩: ∃W,W4.alloc (.cells #[.int .i64 0,.int .i64 0,.bool false,.bool false,.slice none 0 0] 105)=W:=⟨_,rfl⟩
  have t4:Ux.Touch (fun _=>False) w3 W4:=by rw [←hW4];exact (Ux.Touch.refl _ _).alloc _
  have t5:Ux.Touch (fun _=>False) W4 W5:=by rw [←hW5];exact (Ux.Touch.refl _ _).alloc _
  have r4:W4.heap[b7]? =some (.cells #[.int .i64 0,.int .i64 0,.bool false,.bool false,.pointer none] 43 (0,0)):=by rw [←hW4,←hb7];exact heap_alloc_new w3 _
  have r5:W5.heap[b8]? =some (.cells #[.int .i64 0,.int .i64 0,.bool false,.bool false,.slice none 0 0] 105 (0,0)):=by rw [←hW5,←hb8];exact heap_alloc_new W4 _
  have r45:=t5.heap r4 (fun f=>f)
  have hsz:b7<b8:=by rw [←hb8];exact Ux.lt_of_heap r4
  have H5:=Lib.hid (And.intro (T3.trans (t4.trans t5 fun _ _ f=>f) fun _ _ f=>f) (And.intro r45 (And.intro r5 (And.intro hsz (And.intro hb7 (And.intro hok (And.intro T3.size t4.size)))))))
  clear t4 t5 r4 r5 r45 hsz T3 hok
  go_wp2_with (first
   |(refine Ux.is_store 43 rfl ?_
     refine Ux.storeN rfl 43 _ _ rfl b7 _ rfl rfl 43 _ H5.out.2.1 (by kernel_rfl) rfl (by simp [Value.oneCell']) ?_
     intro W6 r6 t6
     have H6:=Lib.hid (And.intro r6 (And.intro t6 (t6.heap H5.out.2.2.1 (by have:=H5.out.2.2.2.1;omega))))
     clear r6 t6)
   |(refine Ux.is_store 105 rfl ?_
     refine Ux.storeN rfl 105 _ _ rfl b8 _ rfl rfl 105 _ H6.out.2.2 (by kernel_rfl) rfl (by simp [Value.oneCell']) ?_
     intro W7 r7 t7
     have H7:=Lib.hid (And.intro (t7.heap H6.out.1 (by have:=H5.out.2.2.2.1;omega)) t7)
     clear r7 t7))
  go_upto_region 2 with (fail)
  have T17:Ux.Touch (fun _=>False) W1 W7:=(H5.out.1.trans H6.out.2.1 fun b hb e=>by have:=H5.out.2.2.2.2;omega).trans H7.out.2 fun b hb e=>by have:=H5.out.2.2.2.2;have:=H5.out.2.2.2.1;omega
  obtain ⟨wk,hwk⟩: ∃W,W7.drew=W:=⟨_,rfl⟩
  have T7k:Ux.Touch (fun _=>False) W7 wk:=by rw [←hwk];exact (Ux.Touch.refl _ _).drew
  have H8:=Lib.hid (And.intro T17 H5.out.2.2.2.2.2.1)
  have HS:=Lib.hid fun W (T:Ux.Touch (fun _=>False) W7 W)=>And.intro (T.cell (cell_of_row W7 b7 0 _ _ (0,0) H7.out.1) (fun f=>f)) (And.intro (T.cell (cell_of_row W7 b7 1 _ _ (0,0) H7.out.1) (fun f=>f)) (And.intro (T.cell (cell_of_row W7 b7 2 _ _ (0,0) H7.out.1) (fun f=>f)) (And.intro (T.cell (cell_of_row W7 b7 3 _ _ (0,0) H7.out.1) (fun f=>f)) (T.cell (cell_of_row W7 b7 4 _ _ (0,0) H7.out.1) (fun f=>f)))))
  simp at HS
  have TK:=Lib.hid T7k
  obtain ⟨x0,x1,x2,x3,x4⟩:=HS.out W7 (Ux.Touch.refl _ _)
  clear T17 T7k hW4 hW5 hb7 hb8
  refine Ux.wpr (fun _ w'=>w'.cell? ⟨b7,0,none⟩=some (.int .i64 kd)∧w'.cell? ⟨b7,1,none⟩=some (.int .i64 LN)∧w'.cell? ⟨b7,2,none⟩=some (.bool sh)∧w'.cell? ⟨b7,3,none⟩=some (.bool bk)∧w'.cell? ⟨b7,4,none⟩=some (.pointer tb)) (.q [0,2,3,4,7] (.h false [8] (.e 1 true true (.q [5] (.e 6 true true (.q [9] (.line [10]))))))) ?_;repeat ((with_reducible refine Ux.qg ?_);refine Ux.qu ?_)
  obtain ⟨b9,hb9⟩: ∃b,wk.heap.size=b:=⟨_,rfl⟩
  obtain ⟨wm,hwm⟩: ∃W,wk.alloc (.cells #[.string ⟨#[98,105,110,97,114,121]⟩,.string ⟨#[110,111,99,97,115,101]⟩,.string ⟨#[114,111,111,116]⟩] 9)=W:=⟨_,rfl⟩
  have tm:Ux.Touch (fun _=>False) wk wm:=by rw [←hwm];exact (Ux.Touch.refl _ _).alloc _
  have rm:wm.heap[b9]? =some (.cells #[.string ⟨#[98,105,110,97,114,121]⟩,.string ⟨#[110,111,99,97,115,101]⟩,.string ⟨#[114,111,111,116]⟩] 9 (0,0)):=by rw [←hwm,←hb9];exact heap_alloc_new wk _
  have TK:=Lib.hid (TK.out.trans tm fun _ _ f=>f)
  go_wp2_with (fail)
  first|refine ⟨⟨HS.out _ TK.out,HS.out _ TK.out⟩,?_⟩|refine ⟨HS.out _ TK.out,?_⟩
  repeat ((with_reducible refine Ux.qg ?_);refine Ux.qu ?_)
  have ym:=cell_of_row wm b9 0 _ _ (0,0) rm
  simp at ym
  go_wp2_with (fail)
  first|refine ⟨⟨HS.out _ TK.out,HS.out _ TK.out⟩,?_⟩|refine ⟨HS.out _ TK.out,?_⟩
  repeat ((with_reducible refine Ux.qg ?_);refine Ux.qu ?_)
  go_wp2_with (refine Ux.is_store 45 rfl ?_;refine Ux.storeN rfl 45 _ _ rfl b6 _ rfl rfl 45 _ ((H8.out.1.trans TK.out fun _ _ f=>f).heap H1.out.2.1 (fun f=>f)) (by kernel_rfl) rfl (by simp [Value.oneCell']) ?_)
  intro W9 r9 t9
  go_wp2_with (fail)
  refine bodyPost_ret (results_cell_row Tryz.results14 _ _ b6 45 _ (0,0) _ rfl r9 Tryz.underlying45 rfl (by kernel_rfl)) rfl ?_
  exact ⟨⟨nm,⟨#[98,105,110,97,114,121]⟩,kind,kd,LN,sh,bk,tb,false⟩,rfl,rfl,rfl,rfl,H8.out.2,(H1.out.1.trans (H8.out.1.trans TK.out fun _ _ f=>f) fun _ _ f=>f).trans t9 fun b hb e=>by have:=H1.out.2.2;omega⟩
 case inr.inl=>
  go_enter Tryz.func14,Tryz.ntmps14
  go_upto_region 1 with (fail)
  clear hb6 hW1
  have hbt:bits .and .i64 1 65535=1:=by decide+kernel
  go_wp2_with (go_at_call 37;fail)
  refine (HC.out 2).mono ?_
  rintro e w3 ⟨kd,LN,sh,bk,tb,x,n,m,rfl,hok,T3⟩
  simp only [cS,rcV]
  obtain ⟨b7,hb7⟩: ∃b,w3.heap.size=b:=⟨_,rfl⟩
  obtain ⟨W4,hW4⟩: ∃W,w3.alloc (.cells #[.int .i64 0,.int .i64 0,.bool false,.bool false,.pointer none] 43)=W:=⟨_,rfl⟩
  obtain ⟨b8,hb8⟩: ∃b,W4.heap.size=b:=⟨_,rfl⟩
  obtain ⟨W5,hW5⟩: ∃W,W4.alloc (.cells #[.int .i64 0,.int .i64 0,.bool false,.bool false,.slice none 0 0] 105)=W:=⟨_,rfl⟩
  have t4:Ux.Touch (fun _=>False) w3 W4:=by rw [←hW4];exact (Ux.Touch.refl _ _).alloc _
  have t5:Ux.Touch (fun _=>False) W4 W5:=by rw [←hW5];exact (Ux.Touch.refl _ _).alloc _
  have r4:W4.heap[b7]? =some (.cells #[.int .i64 0,.int .i64 0,.bool false,.bool false,.pointer none] 43 (0,0)):=by rw [←hW4,←hb7];exact heap_alloc_new w3 _
  have r5:W5.heap[b8]? =some (.cells #[.int .i64 0,.int .i64 0,.bool false,.bool false,.slice none 0 0] 105 (0,0)):=by rw [←hW5,←hb8];exact heap_alloc_new W4 _
  have r45:=t5.heap r4 (fun f=>f)
  have hsz:b7<b8:=by rw [←hb8];exact Ux.lt_of_heap r4
  have H5:=Lib.hid (And.intro (T3.trans (t4.trans t5 fun _ _ f=>f) fun _ _ f=>f) (And.intro r45 (And.intro r5 (And.intro hsz (And.intro hb7 (And.intro hok (And.intro T3.size t4.size)))))))
  clear t4 t5 r4 r5 r45 hsz T3 hok
  go_wp2_with (first
   |(refine Ux.is_store 43 rfl ?_
     refine Ux.storeN rfl 43 _ _ rfl b7 _ rfl rfl 43 _ H5.out.2.1 (by kernel_rfl) rfl (by simp [Value.oneCell']) ?_
     intro W6 r6 t6
     have H6:=Lib.hid (And.intro r6 (And.intro t6 (t6.heap H5.out.2.2.1 (by have:=H5.out.2.2.2.1;omega))))
     clear r6 t6)
   |(refine Ux.is_store 105 rfl ?_
     refine Ux.storeN rfl 105 _ _ rfl b8 _ rfl rfl 105 _ H6.out.2.2 (by kernel_rfl) rfl (by simp [Value.oneCell']) ?_
     intro W7 r7 t7
     have H7:=Lib.hid (And.intro (t7.heap H6.out.1 (by have:=H5.out.2.2.2.1;omega)) t7)
     clear r7 t7))
  go_upto_region 2 with (fail)
  have T17:Ux.Touch (fun _=>False) W1 W7:=(H5.out.1.trans H6.out.2.1 fun b hb e=>by have:=H5.out.2.2.2.2;omega).trans H7.out.2 fun b hb e=>by have:=H5.out.2.2.2.2;have:=H5.out.2.2.2.1;omega
  obtain ⟨wk,hwk⟩: ∃W,W7.drew=W:=⟨_,rfl⟩
  have T7k:Ux.Touch (fun _=>False) W7 wk:=by rw [←hwk];exact (Ux.Touch.refl _ _).drew
  have H8:=Lib.hid (And.intro T17 H5.out.2.2.2.2.2.1)
  have HS:=Lib.hid fun W (T:Ux.Touch (fun _=>False) W7 W)=>And.intro (T.cell (cell_of_row W7 b7 0 _ _ (0,0) H7.out.1) (fun f=>f)) (And.intro (T.cell (cell_of_row W7 b7 1 _ _ (0,0) H7.out.1) (fun f=>f)) (And.intro (T.cell (cell_of_row W7 b7 2 _ _ (0,0) H7.out.1) (fun f=>f)) (And.intro (T.cell (cell_of_row W7 b7 3 _ _ (0,0) H7.out.1) (fun f=>f)) (T.cell (cell_of_row W7 b7 4 _ _ (0,0) H7.out.1) (fun f=>f)))))
  simp at HS
  have TK:=Lib.hid T7k
  obtain ⟨x0,x1,x2,x3,x4⟩:=HS.out W7 (Ux.Touch.refl _ _)
  clear T17 T7k hW4 hW5 hb7 hb8
  refine Ux.wpr (fun _ w'=>w'.cell? ⟨b7,0,none⟩=some (.int .i64 kd)∧w'.cell? ⟨b7,1,none⟩=some (.int .i64 LN)∧w'.cell? ⟨b7,2,none⟩=some (.bool sh)∧w'.cell? ⟨b7,3,none⟩=some (.bool bk)∧w'.cell? ⟨b7,4,none⟩=some (.pointer tb)) (.q [0,2,3,4,7] (.h false [8] (.e 1 true true (.q [5] (.e 6 true true (.q [9] (.line [10]))))))) ?_;repeat ((with_reducible refine Ux.qg ?_);refine Ux.qu ?_)
  obtain ⟨b9,hb9⟩: ∃b,wk.heap.size=b:=⟨_,rfl⟩
  obtain ⟨wm,hwm⟩: ∃W,wk.alloc (.cells #[.string ⟨#[98,105,110,97,114,121]⟩,.string ⟨#[110,111,99,97,115,101]⟩,.string ⟨#[114,111,111,116]⟩] 9)=W:=⟨_,rfl⟩
  have tm:Ux.Touch (fun _=>False) wk wm:=by rw [←hwm];exact (Ux.Touch.refl _ _).alloc _
  have rm:wm.heap[b9]? =some (.cells #[.string ⟨#[98,105,110,97,114,121]⟩,.string ⟨#[110,111,99,97,115,101]⟩,.string ⟨#[114,111,111,116]⟩] 9 (0,0)):=by rw [←hwm,←hb9];exact heap_alloc_new wk _
  have TK:=Lib.hid (TK.out.trans tm fun _ _ f=>f)
  go_wp2_with (fail)
  first|refine ⟨⟨HS.out _ TK.out,HS.out _ TK.out⟩,?_⟩|refine ⟨HS.out _ TK.out,?_⟩
  repeat ((with_reducible refine Ux.qg ?_);refine Ux.qu ?_)
  have ym:=cell_of_row wm b9 1 _ _ (0,0) rm
  simp at ym
  go_wp2_with (fail)
  first|refine ⟨⟨HS.out _ TK.out,HS.out _ TK.out⟩,?_⟩|refine ⟨HS.out _ TK.out,?_⟩
  repeat ((with_reducible refine Ux.qg ?_);refine Ux.qu ?_)
  go_wp2_with (refine Ux.is_store 45 rfl ?_;refine Ux.storeN rfl 45 _ _ rfl b6 _ rfl rfl 45 _ ((H8.out.1.trans TK.out fun _ _ f=>f).heap H1.out.2.1 (fun f=>f)) (by kernel_rfl) rfl (by simp [Value.oneCell']) ?_)
  intro W9 r9 t9
  go_wp2_with (fail)
  refine bodyPost_ret (results_cell_row Tryz.results14 _ _ b6 45 _ (0,0) _ rfl r9 Tryz.underlying45 rfl (by kernel_rfl)) rfl ?_
  exact ⟨⟨nm,⟨#[110,111,99,97,115,101]⟩,kind,kd,LN,sh,bk,tb,false⟩,rfl,rfl,rfl,rfl,H8.out.2,(H1.out.1.trans (H8.out.1.trans TK.out fun _ _ f=>f) fun _ _ f=>f).trans t9 fun b hb e=>by have:=H1.out.2.2;omega⟩
 case inr.inr=>
  go_enter Tryz.func14,Tryz.ntmps14
  go_upto_region 1 with (fail)
  clear hb6 hW1
  have hbt:bits .and .i64 2 65535=2:=by decide+kernel
  go_wp2_with (go_at_call 37;fail)
  refine (HC.out 3).mono ?_
  rintro e w3 ⟨kd,LN,sh,bk,tb,x,n,m,rfl,hok,T3⟩
  simp only [cS,rcV]
  obtain ⟨b7,hb7⟩: ∃b,w3.heap.size=b:=⟨_,rfl⟩
  obtain ⟨W4,hW4⟩: ∃W,w3.alloc (.cells #[.int .i64 0,.int .i64 0,.bool false,.bool false,.pointer none] 43)=W:=⟨_,rfl⟩
  obtain ⟨b8,hb8⟩: ∃b,W4.heap.size=b:=⟨_,rfl⟩
  obtain ⟨W5,hW5⟩: ∃W,W4.alloc (.cells #[.int .i64 0,.int .i64 0,.bool false,.bool false,.slice none 0 0] 105)=W:=⟨_,rfl⟩
  have t4:Ux.Touch (fun _=>False) w3 W4:=by rw [←hW4];exact (Ux.Touch.refl _ _).alloc _
  have t5:Ux.Touch (fun _=>False) W4 W5:=by rw [←hW5];exact (Ux.Touch.refl _ _).alloc _
  have r4:W4.heap[b7]? =some (.cells #[.int .i64 0,.int .i64 0,.bool false,.bool false,.pointer none] 43 (0,0)):=by rw [←hW4,←hb7];exact heap_alloc_new w3 _
  have r5:W5.heap[b8]? =some (.cells #[.int .i64 0,.int .i64 0,.bool false,.bool false,.slice none 0 0] 105 (0,0)):=by rw [←hW5,←hb8];exact heap_alloc_new W4 _
  have r45:=t5.heap r4 (fun f=>f)
  have hsz:b7<b8:=by rw [←hb8];exact Ux.lt_of_heap r4
  have H5:=Lib.hid (And.intro (T3.trans (t4.trans t5 fun _ _ f=>f) fun _ _ f=>f) (And.intro r45 (And.intro r5 (And.intro hsz (And.intro hb7 (And.intro hok (And.intro T3.size t4.size)))))))
  clear t4 t5 r4 r5 r45 hsz T3 hok
  go_wp2_with (first
   |(refine Ux.is_store 43 rfl ?_
     refine Ux.storeN rfl 43 _ _ rfl b7 _ rfl rfl 43 _ H5.out.2.1 (by kernel_rfl) rfl (by simp [Value.oneCell']) ?_
     intro W6 r6 t6
     have H6:=Lib.hid (And.intro r6 (And.intro t6 (t6.heap H5.out.2.2.1 (by have:=H5.out.2.2.2.1;omega))))
     clear r6 t6)
   |(refine Ux.is_store 105 rfl ?_
     refine Ux.storeN rfl 105 _ _ rfl b8 _ rfl rfl 105 _ H6.out.2.2 (by kernel_rfl) rfl (by simp [Value.oneCell']) ?_
     intro W7 r7 t7
     have H7:=Lib.hid (And.intro (t7.heap H6.out.1 (by have:=H5.out.2.2.2.1;omega)) t7)
     clear r7 t7))
  go_upto_region 2 with (fail)
  have T17:Ux.Touch (fun _=>False) W1 W7:=(H5.out.1.trans H6.out.2.1 fun b hb e=>by have:=H5.out.2.2.2.2;omega).trans H7.out.2 fun b hb e=>by have:=H5.out.2.2.2.2;have:=H5.out.2.2.2.1;omega
  obtain ⟨wk,hwk⟩: ∃W,W7.drew=W:=⟨_,rfl⟩
  have T7k:Ux.Touch (fun _=>False) W7 wk:=by rw [←hwk];exact (Ux.Touch.refl _ _).drew
  have H8:=Lib.hid (And.intro T17 H5.out.2.2.2.2.2.1)
  have HS:=Lib.hid fun W (T:Ux.Touch (fun _=>False) W7 W)=>And.intro (T.cell (cell_of_row W7 b7 0 _ _ (0,0) H7.out.1) (fun f=>f)) (And.intro (T.cell (cell_of_row W7 b7 1 _ _ (0,0) H7.out.1) (fun f=>f)) (And.intro (T.cell (cell_of_row W7 b7 2 _ _ (0,0) H7.out.1) (fun f=>f)) (And.intro (T.cell (cell_of_row W7 b7 3 _ _ (0,0) H7.out.1) (fun f=>f)) (T.cell (cell_of_row W7 b7 4 _ _ (0,0) H7.out.1) (fun f=>f)))))
  simp at HS
  have TK:=Lib.hid T7k
  obtain ⟨x0,x1,x2,x3,x4⟩:=HS.out W7 (Ux.Touch.refl _ _)
  clear T17 T7k hW4 hW5 hb7 hb8
  refine Ux.wpr (fun _ w'=>w'.cell? ⟨b7,0,none⟩=some (.int .i64 kd)∧w'.cell? ⟨b7,1,none⟩=some (.int .i64 LN)∧w'.cell? ⟨b7,2,none⟩=some (.bool sh)∧w'.cell? ⟨b7,3,none⟩=some (.bool bk)∧w'.cell? ⟨b7,4,none⟩=some (.pointer tb)) (.q [0,2,3,4,7] (.h false [8] (.e 1 true true (.q [5] (.e 6 true true (.q [9] (.line [10]))))))) ?_;repeat ((with_reducible refine Ux.qg ?_);refine Ux.qu ?_)
  obtain ⟨b9,hb9⟩: ∃b,wk.heap.size=b:=⟨_,rfl⟩
  obtain ⟨wm,hwm⟩: ∃W,wk.alloc (.cells #[.string ⟨#[98,105,110,97,114,121]⟩,.string ⟨#[110,111,99,97,115,101]⟩,.string ⟨#[114,111,111,116]⟩] 9)=W:=⟨_,rfl⟩
  have tm:Ux.Touch (fun _=>False) wk wm:=by rw [←hwm];exact (Ux.Touch.refl _ _).alloc _
  have rm:wm.heap[b9]? =some (.cells #[.string ⟨#[98,105,110,97,114,121]⟩,.string ⟨#[110,111,99,97,115,101]⟩,.string ⟨#[114,111,111,116]⟩] 9 (0,0)):=by rw [←hwm,←hb9];exact heap_alloc_new wk _
  have TK:=Lib.hid (TK.out.trans tm fun _ _ f=>f)
  go_wp2_with (fail)
  first|refine ⟨⟨HS.out _ TK.out,HS.out _ TK.out⟩,?_⟩|refine ⟨HS.out _ TK.out,?_⟩
  repeat ((with_reducible refine Ux.qg ?_);refine Ux.qu ?_)
  have ym:=cell_of_row wm b9 2 _ _ (0,0) rm
  simp at ym
  go_wp2_with (fail)
  first|refine ⟨⟨HS.out _ TK.out,HS.out _ TK.out⟩,?_⟩|refine ⟨HS.out _ TK.out,?_⟩
  repeat ((with_reducible refine Ux.qg ?_);refine Ux.qu ?_)
  go_wp2_with (refine Ux.is_store 45 rfl ?_;refine Ux.storeN rfl 45 _ _ rfl b6 _ rfl rfl 45 _ ((H8.out.1.trans TK.out fun _ _ f=>f).heap H1.out.2.1 (fun f=>f)) (by kernel_rfl) rfl (by simp [Value.oneCell']) ?_)
  intro W9 r9 t9
  go_wp2_with (fail)
  refine bodyPost_ret (results_cell_row Tryz.results14 _ _ b6 45 _ (0,0) _ rfl r9 Tryz.underlying45 rfl (by kernel_rfl)) rfl ?_
  exact ⟨⟨nm,⟨#[114,111,111,116]⟩,kind,kd,LN,sh,bk,tb,false⟩,rfl,rfl,rfl,rfl,H8.out.2,(H1.out.1.trans (H8.out.1.trans TK.out fun _ _ f=>f) fun _ _ f=>f).trans t9 fun b hb e=>by have:=H1.out.2.2;omega⟩
end Go.Proofs.YtmnkinaaoifpeaaGreatDoor
namespace Go.Proofs.YtmnkinaaoifpeaaGreatDoor
open Go.RowKit
theorem ColXs.of_row {w:World} {g:Nat} {l:List ColX} {cs:Array Value} {t:TypeId} (h:w.heap[g]? =some (.cells cs t (0,0))) (hcs:cs.toList=colCells l):ColXs w (.slice (some ⟨g,0,none⟩) l.length l.length) l:=by
 refine ⟨_,_,rfl,Nat.le_refl _,fun i x hx=> ?_⟩
 have key: ∀k u,k<9→x.cells.toList[k]? =some u→w.cell? ⟨g,0+i*9+k,none⟩=some u:=fun k u hk hu=>by
  rw [Nat.zero_add,cell_of_row w g (i*9+k) _ _ (0,0) h,←Array.getElem?_toList,hcs,colCells_get hx k hk,hu]
 exact ⟨g,0,rfl,Ux.lt_of_heap h,key 0 _ (by omega) rfl,key 1 _ (by omega) rfl,key 2 _ (by omega) rfl,key 3 _ (by omega) rfl,key 4 _ (by omega) rfl,key 5 _ (by omega) rfl,key 6 _ (by omega) rfl,key 7 _ (by omega) rfl,key 8 _ (by omega) rfl⟩
def TabFR (fan:Int) (cs:List (Int×Bool)) (w w':World) (e:Ending):Prop:=
 ∃db m1 m2 tb mb cols,e= .returned (.pointer (some ⟨db,0,none⟩))∧Db1 w' db m1 m2 1 fan tb∧TabR w' tb mb 0 cols 0 (fun _=>none) []∧(∀(R:Nat→Prop) W,Ux.Touch R w' W→(∀b,b<w'.heap.size→b≠tb→¬R b)→ColRows W cols cs)∧w.heap.size≤db∧w.heap.size≤tb∧(tb≠db∧tb≠m1∧tb≠m2∧tb≠mb)∧Ux.Touch (fun _=>False) w w'
set_option maxHeartbeats 8000000 in
set_option maxRecDepth 100000 in
theorem table_ (w:World) (hT:Tabs w):Calls Tryz.prog 6 #[] w fun e w'=>TabFR 5 [(2,false),(3,false),(3,true)] w w' e:=by
 have HS:=Lib.hid (snew_ 5 w (by decide) (by decide))
 have HT:=Lib.hid hT
 clear hT
 go_enter Tryz.func6,Tryz.ntmps6
 go_wp2_with (go_at_call 16;fail)
 refine HS.out.mono ?_
 rintro e w1 ⟨db,m1,m2,rfl,r0,i1,i2,h1,h2,h3,h4,T1⟩
 have hd0:DbAt w1 db m1 m2 5:=⟨r0,i2⟩
 have hdb:db≠m1:=fun e=>by
  have:=i1.lt
  subst e
  obtain ⟨D,hD,_⟩:=i1
  obtain ⟨es,clock,hh,_⟩:=hD
  rw [r0] at hh
  cases hh
 have hdm:db<w1.heap.size:=Ux.lt_of_heap r0
 have H1:=Lib.hid (And.intro hd0 (And.intro i1 (And.intro hdb (And.intro h4 (And.intro T1 (And.intro h1 (And.intro h2 (And.intro h3 hdm))))))))
 have HO1:=Lib.hid (colOf_ ⟨#[97]⟩ 2 0 (.inl rfl) w1 (HT.out.touch T1))
 clear hd0 i1 i2 hdb h1 h2 h3 h4 T1 r0 hdm
 go_wp2_with (go_at_call 14;fail)
 refine HO1.out.mono ?_
 rintro e w2 ⟨⟨nm1,cn1,ty1,kd1,lv1,sh1,bk1,tb1,nn1⟩,rfl,e1,e2,e3,ok1,T2⟩
 simp only at e1 e2 e3 ok1
 subst e1;subst e2;subst e3
 simp only [ColX.cells,colS]
 have T2':=H1.out.2.2.2.2.1.trans T2 fun _ _ f=>f
 have HO2:=Lib.hid (colOf_ ⟨#[98]⟩ 3 1 (.inr (.inl rfl)) w2 (HT.out.touch T2'))
 have H2:=Lib.hid (And.intro ok1 T2)
 clear ok1 T2 T2'
 go_wp2_with (go_at_call 14;fail)
 refine HO2.out.mono ?_
 rintro e w3 ⟨⟨nm2,cn2,ty2,kd2,lv2,sh2,bk2,tb2,nn2⟩,rfl,e1,e2,e3,ok2,T3⟩
 simp only at e1 e2 e3 ok2
 subst e1;subst e2;subst e3
 simp only [ColX.cells,colS]
 have T3':=H2.out.2.trans T3 fun _ _ f=>f
 have HO3:=Lib.hid (colOf_ ⟨#[99]⟩ 3 2 (.inr (.inr rfl)) w3 (HT.out.touch (H1.out.2.2.2.2.1.trans T3' fun _ _ f=>f)))
 have H3:=Lib.hid (And.intro ok2 T3')
 clear ok2 T3 T3'
 go_wp2_with (go_at_call 14;fail)
 refine HO3.out.mono ?_
 rintro e w4 ⟨⟨nm3,cn3,ty3,kd3,lv3,sh3,bk3,tb3,nn3⟩,rfl,e1,e2,e3,ok3,T4⟩
 simp only at e1 e2 e3 ok3
 subst e1;subst e2;subst e3
 simp only [ColX.cells,colS]
 have H4:=Lib.hid (And.intro ok3 (H3.out.2.trans T4 fun _ _ f=>f))
 clear ok3 T4
 obtain ⟨b5,hb5⟩: ∃b,w4.heap.size=b:=⟨_,rfl⟩
 obtain ⟨W5,hW5⟩: ∃W,w4.alloc (.cells #[.string ⟨#[97]⟩,.string cn1,.int .i64 2,.int .i64 kd1,.int .i64 lv1,.bool sh1,.bool bk1,.pointer tb1,.bool false,.string ⟨#[98]⟩,.string cn2,.int .i64 3,.int .i64 kd2,.int .i64 lv2,.bool sh2,.bool bk2,.pointer tb2,.bool false,.string ⟨#[99]⟩,.string cn3,.int .i64 3,.int .i64 kd3,.int .i64 lv3,.bool sh3,.bool bk3,.pointer tb3,.bool false] 45)=W:=⟨_,rfl⟩
 have r5:W5.heap[b5]? =some (.cells #[.string ⟨#[97]⟩,.string cn1,.int .i64 2,.int .i64 kd1,.int .i64 lv1,.bool sh1,.bool bk1,.pointer tb1,.bool false,.string ⟨#[98]⟩,.string cn2,.int .i64 3,.int .i64 kd2,.int .i64 lv2,.bool sh2,.bool bk2,.pointer tb2,.bool false,.string ⟨#[99]⟩,.string cn3,.int .i64 3,.int .i64 kd3,.int .i64 lv3,.bool sh3,.bool bk3,.pointer tb3,.bool false] 45 (0,0)):=by rw [←hW5,←hb5];exact heap_alloc_new w4 _
 have T5:Ux.Touch (fun _=>False) w4 W5:=by rw [←hW5];exact (Ux.Touch.refl _ _).alloc _
 have y26:=cell_of_row W5 b5 26 _ _ (0,0) r5
 have z26:=Ux.frozen_row r5 26
 simp at y26
 have H5:=Lib.hid (And.intro r5 (And.intro T5 hb5))
 clear r5 T5
 go_upto_region 6 with (fail)
 obtain ⟨W6,hW6⟩: ∃W,W5.setCell ⟨b5,26,none⟩ (.bool true)=W:=⟨_,rfl⟩
 rw [hW6]
 have r6:W6.heap[b5]? =some (.cells #[.string ⟨#[97]⟩,.string cn1,.int .i64 2,.int .i64 kd1,.int .i64 lv1,.bool sh1,.bool bk1,.pointer tb1,.bool false,.string ⟨#[98]⟩,.string cn2,.int .i64 3,.int .i64 kd2,.int .i64 lv2,.bool sh2,.bool bk2,.pointer tb2,.bool false,.string ⟨#[99]⟩,.string cn3,.int .i64 3,.int .i64 kd3,.int .i64 lv3,.bool sh3,.bool bk3,.pointer tb3,.bool true] 45 (0,0)):=by
  rw [←hW6]
  exact Ux.setCell_row H5.out.1 26 _
 have T6:Ux.Touch (fun _=>False) w4 W6:=by
  refine H5.out.2.1.trans (R':=fun b=>b=b5) ?_ fun b hb e=>by have:=H5.out.2.2;omega
  rw [←hW6]
  exact (Ux.Touch.refl (fun b=>b=b5) _).setCell (p:=⟨b5,26,none⟩) (fun _=>rfl) _
 have T16:Ux.Touch (fun _=>False) w1 W6:=H4.out.2.trans T6 fun _ _ f=>f
 have hcx:ColXs W6 (.slice (some ⟨b5,0,none⟩) 3 3) [⟨⟨#[97]⟩,cn1,2,kd1,lv1,sh1,bk1,tb1,false⟩,⟨⟨#[98]⟩,cn2,3,kd2,lv2,sh2,bk2,tb2,false⟩,⟨⟨#[99]⟩,cn3,3,kd3,lv3,sh3,bk3,tb3,true⟩]:=ColXs.of_row (l:= [⟨⟨#[97]⟩,cn1,2,kd1,lv1,sh1,bk1,tb1,false⟩,⟨⟨#[98]⟩,cn2,3,kd2,lv2,sh2,bk2,tb2,false⟩,⟨⟨#[99]⟩,cn3,3,kd3,lv3,sh3,bk3,tb3,true⟩]) r6 rfl
 have HC:=Lib.hid (create_ db m1 m2 5 _ _ W6 (H1.out.1.touch0 T16) (H1.out.2.1.touch T16 (fun f=>f)) ⟨H1.out.2.2.1,H1.out.2.2.2.1⟩ hcx (by simp) (by simp) (by show [(⟨#[97]⟩:ByteArray),⟨#[98]⟩,⟨#[99]⟩].Nodup;decide)
  (fun x hx=>by
    rcases List.mem_cons.1 hx with rfl|hx
    ·exact ⟨show (1:Int)≤2 by decide,show (2:Int)≤3 by decide,H2.out.1⟩
    rcases List.mem_cons.1 hx with rfl|hx
    ·exact ⟨show (1:Int)≤3 by decide,show (3:Int)≤3 by decide,H3.out.1⟩
    rcases List.mem_cons.1 hx with rfl|hx
    ·exact ⟨show (1:Int)≤3 by decide,show (3:Int)≤3 by decide,H4.out.1⟩
    cases hx)
  (fun x hx=>by
    rcases List.mem_cons.1 hx with rfl|hx
    ·exact Nat.le_of_ble_eq_true rfl
    rcases List.mem_cons.1 hx with rfl|hx
    ·exact Nat.le_of_ble_eq_true rfl
    rcases List.mem_cons.1 hx with rfl|hx
    ·exact Nat.le_of_ble_eq_true rfl
    cases hx))
 have H6:=Lib.hid T16
 clear y26 z26 hW5 hW6 r6 T6 T16 hcx hb5
 go_wp2_with (go_at_call 17;fail)
 refine HC.out.mono ?_
 rintro e w7 ⟨rfl,tb,mb,v,g1,g2,g3,g4,g5,g6,gb,g7⟩
 have h1:=H1.out
 have h6:=H6.out.size
 have HR:=Lib.hid (show TabFR 5 [(2,false),(3,false),(3,true)] w w7 (.returned (.pointer (some ⟨db,0,none⟩))) from ⟨db,m1,m2,tb,mb,v,rfl,g1,g2,fun R W T hR=>(COwn.cols (lo:=W6.heap.size) ⟨Ux.own_touch g3.1 T fun b hb=>hR b (Ux.own_lt g3.1 b hb) (Nat.ne_of_lt (gb b hb)),g3.2⟩).rows,by have:=h1.2.2.2.2.2.2.2.1;omega,by have:=h1.2.2.2.2.1.size;omega,⟨by have:=h1.2.2.2.2.2.2.2.2;omega,by have:=h1.2.1.lt;omega,by have:=h1.1.idx.lt;omega,g6⟩,(h1.2.2.2.2.1.trans H6.out fun _ _ f=>f).trans g7 fun b hb e=>by have:=h1.2.2.2.2.2.1;omega⟩)
 clear g1 g2 g3 g4 g5 g6 gb g7 h1 h6
 go_wp2_with (fail)
 go_returns
 exact HR.out
end Go.Proofs.YtmnkinaaoifpeaaGreatDoor
namespace Go.Proofs.YtmnkinaaoifpeaaGreatDoor
open Go.RowKit
open Go.Shelf Go.Maps
open Ux (KGrow VRows Val3)
theorem keysR19 (mb:Option Nat) (W:World):Calls Tryz.prog 39 #[.map mb] W fun e w'=>e= .returned (.func (.func 86) #[] #[.pointer (some ⟨W.heap.size,0,none⟩)])∧w'=W.alloc (.cells #[.map mb] 77):=
 (callsIn_wide (n:=5)).1 (AnyZI.keys_in Tryz.keysR Fence.wide 5 trivial rfl mb W)
theorem sortedR18 {w:World} {b n:Nat} {g:Int→Option Value} {ks0:List Int} (h:Ux.MapIs Tryz.prog 3 w b n (Ux.intF g)) (hnd:ks0.Nodup) (hm: ∀x,x∈ks0↔(Ux.intF g (.int .i64 x)).isSome=true) (hn:n≤100000):
 Calls Tryz.prog 38 #[.func (.func 86) #[] #[.pointer (some ⟨w.heap.size,0,none⟩)]] (w.alloc (.cells #[.map (some b)] 77)) fun e w'=> ∃(v:Value) (ks:List Int),e= .returned v∧ks.Perm ks0∧ks.Pairwise (· < ·)∧
  w'.ownsRow (w.heap.size+1) 3 1 v ks.length (ks.map (Value.int .i64))∧Ux.Touch (fun _=>False) w w':=
 sorted18 86 77 (enters_of Tryz.func86 (by kernel_rfl) rfl) h hnd hm hn fun D0 hD=>
  AnyZI.keys_gives (ρ:=Tryz.keysR_ren) { Tryz.keysR with } Fence.wide _ trivial rfl (by omega) w.heap.size b n D0 _ (by simp) (by simp) (by
   have hbl:=hD.lt
   obtain ⟨es,clock,hb,Ft,hs,hD⟩:=hD
   exact ⟨es,clock,(Below.heap_alloc _ _ b hbl).trans hb,Ft,hs,hD⟩)
theorem clipV_ (a:Option Addr) (n c:Nat) (w:World) (hn:n≤10000) (hc:n≤c):Calls Tryz.prog 40 #[.slice a n c] w fun e w'=>e= .returned (.slice a n n)∧w'=w:=by
 have n0:(n:Int)≤10000:=by omega
 have n1:(n:Int)≤c:=by omega
 have n2:(0:Int)≤n:=by omega
 go_enter Tryz.func40,Tryz.ntmps40
 go_wp2_with (fail)
 go_returns
 exact ⟨rfl,rfl⟩
theorem clipR_ (a:Option Addr) (n c:Nat) (w:World) (hn:n≤10000) (hc:n≤c):Calls Tryz.prog 42 #[.slice a n c] w fun e w'=>e= .returned (.slice a n n)∧w'=w:=by
 have n0:(n:Int)≤10000:=by omega
 have n1:(n:Int)≤c:=by omega
 have n2:(0:Int)≤n:=by omega
 go_enter Tryz.func42,Tryz.ntmps42
 go_wp2_with (fail)
 go_returns
 exact ⟨rfl,rfl⟩
theorem infoR:(Tryz.prog.info? 34).map (fun i=>(i.zero,i.size,i.bytes))=some (some (.agg #[.int .i64 0,.slice none 0 0]),2,32):=by kernel_rfl
def Rows1R (k:Int) (l:List Val3) (w w':World) (e:Ending):Prop:= ∃q v,e= .returned (.slice (some ⟨q,0,none⟩) 1 1)∧w'.cell? ⟨q,0,none⟩=some (.int .i64 k)∧w'.cell? ⟨q,1,none⟩=some v∧VRows w' v l∧Ux.Touch (fun _=>False) w w'
set_option maxHeartbeats 8000000 in
set_option maxRecDepth 100000 in
theorem rows1_ (db m1 m2 N:Nat) (fan:Int) (tb mb N1:Nat) (cols:Value) (last:Int) (g:Int→Option Value) (k:Int) (v:Value) (l:List Val3) (w:World) (hd:Db1 w db m1 m2 N fan tb) (ht:TabR w tb mb N1 cols last g [k]) (hN1:N1≤1000)
 (hk:1≤k∧k≤1000) (hg:g k=some v) (hv:VRows w v l) (hl:l.length≤100) (hne:l≠[]):
 Calls Tryz.prog 15 #[.pointer (some ⟨db,0,none⟩),.string ⟨#[116]⟩] w fun e w'=>Rows1R k l w w' e:=by
 obtain ⟨a,c,rfl,hac⟩:=hv.is
 have c1:=cell_of_row w db 1 _ _ (0,0) hd.db.row
 have d1:=cell_of_row w tb 1 _ _ (0,0) ht.row
 simp at c1 d1
 have HL:=Lib.hid hd.look
 have HA:=Lib.hid (And.intro ht (And.intro hg (And.intro hv (And.intro hl (And.intro hne (And.intro hN1 hk))))))
 have HS:=Lib.hid (sortedR18 ht.map ht.nd (fun x=>ht.mem x) (by omega))
 clear hd ht hg hv hl hne hac hN1
 go_enter Tryz.func15,Tryz.ntmps15
 go_wp2_with (first
  |(at_lookup;refine Ux.wpList_look rfl _ _ 70 rfl rfl rfl HL.out ?_)
  |(go_at_call 39;fail))
 refine (keysR19 (some mb) w).mono ?_
 rintro e w1 ⟨rfl,rfl⟩
 go_wp2_with (go_at_call 38;fail)
 refine HS.out.mono ?_
 rintro e w2 ⟨sv,ks,rfl,hp,-,hrow,T2⟩
 obtain rfl:ks= [k]:=List.perm_singleton.1 hp
 obtain ⟨gk,ak,ck,rfl,hgk,hcell⟩:=keys_row hrow
 obtain ⟨rfl,y0⟩:=hcell 0 k rfl
 have H2:=Lib.hid T2
 have d2:=T2.cell d1 (fun f=>f)
 have hm2:=HA.out.1.map.touch T2 (fun f=>f)
 have hlk:=hm2.look keyedRI Tryz.underlying77 (zeroVS w2) (keyRI (c:=k) (by omega) (by omega))
 rw [show Ux.intF g (.int .i64 k)=some (.slice a l.length c) from HA.out.2.1] at hlk
 have HLR:=Lib.hid (show (Instr.lookup 77 (.map (some mb)) (.int .i64 k) false).run Tryz.prog w2= .ok (.slice a l.length c) w2 from hlk)
 have HCV:=Lib.hid (cloneV_ l w2 (.slice a l.length c) (HA.out.2.2.1.touch0 T2) (by have:=HA.out.2.2.2.1;omega) HA.out.2.2.2.2.1)
 obtain ⟨n,hn⟩: ∃n,l.length=n:=⟨_,rfl⟩
 rw [hn] at HLR HCV
 have HN:=Lib.hid hn
 clear hp hrow T2 d1 c1 hgk hcell hm2 hlk hn
 rw [show ([k]:List Int).length=1 from rfl]
 go_wp2_with (fail)
 refine wp_loop_rounds 2 ?_
 rw [rounds_succ]
 go_wp2_with (first
  |(at_lookup;refine Ux.wpList_look rfl _ _ 77 rfl rfl rfl HLR.out ?_)
  |(go_at_call 41;fail))
 refine HCV.out.mono ?_
 rintro e w3 ⟨v',rfl,hown,hsh,T3⟩
 obtain ⟨q3,c3,hv3⟩:=hsh HA.out.2.2.2.2.1
 rw [HN.out] at hv3
 subst hv3
 have hcap:n≤c3:=by have:=hown;unfold VOwn at this;rw [HN.out] at this;exact this.cap
 have HCL:=Lib.hid (clipV_ (some ⟨q3,0,none⟩) n c3 w3 (by have:=HA.out.2.2.2.1;have:=HN.out;omega) hcap)
 have H3:=Lib.hid (And.intro hown (And.intro T3 hcap))
 clear hown hsh T3 hcap d2
 go_wp2_with (go_at_call 40;fail)
 refine HCL.out.mono ?_
 rintro e w4 ⟨rfl,hw⟩
 obtain rfl:w3=w4:=hw.symm
 clear hw
 obtain ⟨b4,hb4⟩: ∃b,w3.heap.size=b:=⟨_,rfl⟩
 obtain ⟨W4,hW4⟩: ∃W,w3.alloc (.cells #[.int .i64 k,.slice (some ⟨q3,0,none⟩) n n] 34)=W:=⟨_,rfl⟩
 have t4:Ux.Touch (fun _=>False) w3 W4:=by rw [←hW4];exact (Ux.Touch.refl _ _).alloc _
 have hs:=Ux.src_new (P:=Tryz.prog) Tryz.underlying35 w3 2 1 [.int .i64 k,.slice (some ⟨q3,0,none⟩) n n] rfl (by simp [Value.oneCell'])
 obtain ⟨r,W5,hrun,hg5,t5⟩:=(KGrow.nil W4 w3.heap.size 34 2).app (P:=Tryz.prog) 35 32 _ Tryz.underlying35 infoR rfl (by omega) _ 1 _ (by rw [←hW4];exact hs) t4.size (by simp only [maxLen];omega) (by omega)
 rw [Nat.zero_add,List.nil_append] at hg5
 rw [hb4] at hrun
 obtain ⟨ra,rc,rfl,hrc⟩:=hg5.is
 obtain ⟨q5,rfl,_,z0⟩:=hrc 0 _ rfl
 obtain ⟨q6,e6,_,z1⟩:=hrc 1 _ rfl
 cases e6
 have t45:Ux.Touch (fun _=>False) w3 W5:=t4.trans t5 fun _ _ f=>by cases f.2
 have HCR:=Lib.hid (clipR_ (some ⟨q5,0,none⟩) 1 rc W5 (by omega) hg5.cap)
 have H5:=Lib.hid (And.intro hrun (And.intro t45 (And.intro z0 z1)))
 clear t4 hs hrun hg5 t5 hrc z0 z1 t45
 go_wp2_with (at_builtin;refine Ux.wpList_app (v1:= .slice none 0 0) (x1:= .slice (some ⟨b4,0,none⟩) 1 1) rfl _ _ _ _ rfl rfl rfl (H5.out.1 _) ?_)
 rw [rounds_succ]
 go_wp2_with (go_at_call 42;fail)
 refine HCR.out.mono ?_
 rintro e w6 ⟨rfl,hw⟩
 obtain rfl:W5=w6:=hw.symm
 clear hw
 go_wp2_with (fail)
 go_returns
 refine ⟨q5,_,rfl,H5.out.2.2.1,H5.out.2.2.2,?_,(H2.out.trans H3.out.2.1 fun _ _ f=>f).trans H5.out.2.1 fun _ _ f=>f⟩
 obtain ⟨a',c',e,hc,hr⟩:=H3.out.1.rows.touch0 H5.out.2.1
 cases e
 exact ⟨_,l.length,rfl,Nat.le_refl _,hr⟩
end Go.Proofs.YtmnkinaaoifpeaaGreatDoor
namespace Go.Proofs.YtmnkinaaoifpeaaGreatDoor
open Go.RowKit
open Ux (VRows Val3)
theorem VRows.of_row {w:World} {g:Nat} {l:List Val3} {cs:Array Value} {t:TypeId} (h:w.heap[g]? =some (.cells cs t (0,0))) (hcs:cs.toList=Ux.valCells l):VRows w (.slice (some ⟨g,0,none⟩) l.length l.length) l:=by
 refine ⟨_,_,rfl,Nat.le_refl _,fun i x hx=> ?_⟩
 obtain ⟨e0,e1,e2⟩:=Ux.valCells_get hx
 have key: ∀j y,(Ux.valCells l)[j]? =some y→w.cell? ⟨g,0+j,none⟩=some y:=fun j y hj=>by
  rw [Nat.zero_add,cell_of_row w g j _ _ (0,0) h,←Array.getElem?_toList,hcs,hj]
 exact ⟨g,0,rfl,Ux.lt_of_heap h,key _ _ e0,key _ _ e1,key _ _ e2⟩
theorem SRows.one {w:World} {g:Nat} {k:Int} {a:Option Addr} {n c:Nat} {t:TypeId} (h:w.heap[g]? =some (.cells #[.int .i64 k,.slice a n c] t (0,0))):SRows w (.slice (some ⟨g,0,none⟩) 1 1) [(k,.slice a n c)]:=by
 refine ⟨_,1,rfl,Nat.le_refl _,fun i x hx=> ?_⟩
 match i,hx with
 |0,hx=>
  cases hx
  exact ⟨⟨_,_,_,rfl⟩,g,0,rfl,Ux.lt_of_heap h,by rw [cell_of_row w g (0+0*2) _ _ (0,0) h];rfl,by rw [cell_of_row w g (0+0*2+1) _ _ (0,0) h];rfl⟩
theorem SRows.two {w:World} {g:Nat} {k k2:Int} {a a2:Option Addr} {n c n2 c2:Nat} {t:TypeId} (h:w.heap[g]? =some (.cells #[.int .i64 k,.slice a n c,.int .i64 k2,.slice a2 n2 c2] t (0,0))):SRows w (.slice (some ⟨g,0,none⟩) 2 2) [(k,.slice a n c),(k2,.slice a2 n2 c2)]:=by
 refine ⟨_,2,rfl,Nat.le_refl _,fun i x hx=> ?_⟩
 match i,hx with
 |0,hx=>
  cases hx
  exact ⟨⟨_,_,_,rfl⟩,g,0,rfl,Ux.lt_of_heap h,by rw [cell_of_row w g (0+0*2) _ _ (0,0) h];rfl,by rw [cell_of_row w g (0+0*2+1) _ _ (0,0) h];rfl⟩
 |1,hx=>
  cases hx
  exact ⟨⟨_,_,_,rfl⟩,g,0,rfl,Ux.lt_of_heap h,by rw [cell_of_row w g (0+1*2) _ _ (0,0) h];rfl,by rw [cell_of_row w g (0+1*2+1) _ _ (0,0) h];rfl⟩
theorem fit5:fitsT [(2,false)] [(2,5,⟨#[]⟩)]=0:=by decide+kernel
theorem fitN:fitsT [(2,false),(3,false),(3,true)] [(2,1,⟨#[]⟩),(0,0,⟨#[]⟩),(3,0,⟨#[120]⟩)]=0:=by decide+kernel
theorem fitB:fitsT [(2,false),(3,false),(3,true)] [(0,0,⟨#[]⟩),(0,0,⟨#[]⟩),(0,0,⟨#[]⟩)]=16:=by decide+kernel
set_option maxHeartbeats 8000000 in
set_option maxRecDepth 100000 in
theorem awake19_ (w:World) (hT:Tabs w):Calls Tryz.prog 12 #[] w fun e w'=>e= .returned (.bool true)∧Ux.Touch (fun _=>False) w w':=by
 have HS:=Lib.hid (snew_ 4 w (by decide) (by decide))
 have HT:=Lib.hid hT
 clear hT
 go_enter Tryz.func12,Tryz.ntmps12
 go_wp2_with (go_at_call 16;fail)
 refine HS.out.mono ?_
 rintro e w1 ⟨db,m1,m2,rfl,r0,i1,i2,h1,h2,h3,h4,T1⟩
 have hd0:DbAt w1 db m1 m2 4:=⟨r0,i2⟩
 have hdb:db≠m1:=fun e=>by
  have:=i1.lt
  subst e
  obtain ⟨D,hD,_⟩:=i1
  obtain ⟨es,clock,hh,_⟩:=hD
  rw [r0] at hh
  cases hh
 have hdm:db<w1.heap.size:=Ux.lt_of_heap r0
 have H1:=Lib.hid (And.intro hd0 (And.intro i1 (And.intro hdb (And.intro h4 (And.intro T1 (And.intro h1 (And.intro h2 (And.intro h3 hdm))))))))
 have HO1:=Lib.hid (colOf_ ⟨#[97]⟩ 2 1 (.inr (.inl rfl)) w1 (HT.out.touch T1))
 clear hd0 i1 i2 hdb h1 h2 h3 h4 T1 r0 hdm
 go_wp2_with (go_at_call 14;fail)
 refine HO1.out.mono ?_
 rintro e w2 ⟨⟨nm1,cn1,ty1,kd1,lv1,sh1,bk1,tb1,nn1⟩,rfl,e1,e2,e3,ok1,T2⟩
 simp only at e1 e2 e3 ok1
 subst e1;subst e2;subst e3
 simp only [ColX.cells,colS]
 obtain ⟨b5,hb5⟩: ∃b,w2.heap.size=b:=⟨_,rfl⟩
 obtain ⟨W5,hW5⟩: ∃W,w2.alloc (.cells #[.string ⟨#[97]⟩,.string cn1,.int .i64 2,.int .i64 kd1,.int .i64 lv1,.bool sh1,.bool bk1,.pointer tb1,.bool false] 45)=W:=⟨_,rfl⟩
 have r5:W5.heap[b5]? =some (.cells #[.string ⟨#[97]⟩,.string cn1,.int .i64 2,.int .i64 kd1,.int .i64 lv1,.bool sh1,.bool bk1,.pointer tb1,.bool false] 45 (0,0)):=by rw [←hW5,←hb5];exact heap_alloc_new w2 _
 have T5:Ux.Touch (fun _=>False) w2 W5:=by rw [←hW5];exact (Ux.Touch.refl _ _).alloc _
 have T15:=T2.trans T5 fun _ _ f=>f
 have hcx:ColXs W5 (.slice (some ⟨b5,0,none⟩) 1 1) [⟨⟨#[97]⟩,cn1,2,kd1,lv1,sh1,bk1,tb1,false⟩]:=ColXs.of_row (l:= [⟨⟨#[97]⟩,cn1,2,kd1,lv1,sh1,bk1,tb1,false⟩]) r5 rfl
 have HC:=Lib.hid (create_ db m1 m2 4 _ _ W5 (H1.out.1.touch0 T15) (H1.out.2.1.touch T15 (fun f=>f)) ⟨H1.out.2.2.1,H1.out.2.2.2.1⟩ hcx (by simp) (by simp) (by show [(⟨#[97]⟩:ByteArray)].Nodup;decide)
  (fun x hx=>by
    rcases List.mem_cons.1 hx with rfl|hx
    ·exact ⟨show (1:Int)≤2 by decide,show (2:Int)≤3 by decide,ok1⟩
    cases hx)
  (fun x hx=>by
    rcases List.mem_cons.1 hx with rfl|hx
    ·exact Nat.le_of_ble_eq_true rfl
    cases hx))
 have H5:=Lib.hid T15
 clear T15 T5 T2 hcx r5 ok1
 go_wp2_with (go_at_call 17;fail)
 clear hW5 hb5
 refine HC.out.mono ?_
 rintro e w7 ⟨rfl,tb,mb,cols,g1,g2,g3,g4,g5,g6,-,g7⟩
 have hap:tb≠db∧tb≠m1∧tb≠m2∧tb≠mb:=by
  have h1:=H1.out
  have h6:=H5.out.size
  exact ⟨by have:=h1.2.2.2.2.2.2.2.2;omega,by have:=h1.2.1.lt;omega,by have:=h1.1.idx.lt;omega,g6⟩
 have T07:Ux.Touch (fun _=>False) w w7:=(H1.out.2.2.2.2.1.trans H5.out fun _ _ f=>f).trans g7 fun b hb e=>by have:=H1.out.2.2.2.2.2.1;omega
 have H7:=Lib.hid (And.intro g1 (And.intro g2 (And.intro g3.cols.rows (And.intro hap T07))))
 have hbs:w.heap.size≤db∧w.heap.size≤tb:=by
  have h1:=H1.out.2.2.2.2
  have h5:=H5.out.size
  have h6:=h1.1.size
  omega
 have HBS:=Lib.hid hbs
 have HI:=Lib.hid (intV_ 5 w7)
 clear g1 g2 g3 g4 g5 g6 g7 hap T07 hbs
 go_wp2_with (go_at_call 7;fail)
 refine HI.out.mono ?_
 rintro e w8 ⟨rfl,T8⟩
 simp only [valS]
 obtain ⟨b9,hb9⟩: ∃b,w8.heap.size=b:=⟨_,rfl⟩
 obtain ⟨W9,hW9⟩: ∃W,w8.alloc (.cells #[.int .i64 2,.int .i64 5,.string ⟨#[]⟩] 26)=W:=⟨_,rfl⟩
 obtain ⟨b10,hb10⟩: ∃b,W9.heap.size=b:=⟨_,rfl⟩
 obtain ⟨W10,hW10⟩: ∃W,W9.alloc (.cells #[.int .i64 0,.slice (some ⟨b9,0,none⟩) 1 1] 34)=W:=⟨_,rfl⟩
 have r9:W9.heap[b9]? =some (.cells #[.int .i64 2,.int .i64 5,.string ⟨#[]⟩] 26 (0,0)):=by rw [←hW9,←hb9];exact heap_alloc_new w8 _
 have r10:W10.heap[b10]? =some (.cells #[.int .i64 0,.slice (some ⟨b9,0,none⟩) 1 1] 34 (0,0)):=by rw [←hW10,←hb10];exact heap_alloc_new W9 _
 have t9:Ux.Touch (fun _=>False) w8 W9:=by rw [←hW9];exact (Ux.Touch.refl _ _).alloc _
 have t10:Ux.Touch (fun _=>False) W9 W10:=by rw [←hW10];exact (Ux.Touch.refl _ _).alloc _
 have T70:=(T8.trans t9 fun _ _ f=>f).trans t10 fun _ _ f=>f
 have hvr:VRows W10 (.slice (some ⟨b9,0,none⟩) 1 1) [(2,5,⟨#[]⟩)]:=(VRows.of_row (l:= [(2,5,⟨#[]⟩)]) r9 rfl).touch0 t10
 have HCH:=Lib.hid (changeG_ db m1 m2 1 4 tb mb 0 cols 0 (fun _=>none) [] [(2,false)] [(2,5,⟨#[]⟩)] _ _ _ W10 (H7.out.1.touch T70 (fun f=>f) (fun f=>f) (fun f=>f)) (H7.out.2.1.touch T70 (fun f=>f) (fun f=>f)) H7.out.2.2.2.1 (H7.out.2.2.1.touch0 T70) (by simp) (SRows.one r10) (by simp) (by omega) ⟨by omega,by omega⟩ (fun i x hx=>by
  match i,hx with
  |0,hx=>cases hx;rfl) hvr (by simp) (by simp) fit5 (fun x v e=>by cases e) (fun k hk=>by cases hk))
 have H10:=Lib.hid T70
 clear T70 t9 t10 r9 r10 hvr T8
 go_wp2_with (go_at_call 9;fail)
 clear hW9 hW10 hb9 hb10
 refine HCH.out.mono ?_
 rintro e w11 ⟨ia,mb2,N3,g2,rfl,hrow,htr,hN3,hmb2,hshp,hone,T11⟩
 obtain ⟨v5,hg5,hown5⟩:=hone rfl
 obtain ⟨qi,rfl,-,y0⟩:=hrow.at (j:=0) (u:= .int .i64 1) rfl
 have hd11:Db1 w11 db m1 m2 1 4 tb:=(H7.out.1.touch H10.out (fun f=>f) (fun f=>f) (fun f=>f)).touch T11 (by
  have h1:=H7.out.2.2.2.1;have h2:=Ux.lt_of_heap (H7.out.1.touch H10.out (fun f=>f) (fun f=>f) (fun f=>f)).db.row;omega) (by
  have h1:=H7.out.2.2.2.1;have h2:=(H7.out.1.touch H10.out (fun f=>f) (fun f=>f) (fun f=>f)).db.idx.lt;omega) (by
  obtain ⟨_,f,hf,_⟩:=H7.out.1.touch H10.out (fun f=>f) (fun f=>f) (fun f=>f)
  have h1:=H7.out.2.2.2.1;have h2:=hf.lt;omega)
 have HR:=Lib.hid (rows1_ db m1 m2 1 4 tb mb2 N3 cols _ g2 1 v5 [(2,5,⟨#[]⟩)] w11 hd11 htr (by simp at hN3;omega) ⟨by omega,by omega⟩ hg5 hown5.rows (by simp) (by simp))
 have H11:=Lib.hid (And.intro hd11 (And.intro T11 y0))
 clear hrow htr hN3 hmb2 hshp hone T11 hg5 hown5 y0 hd11
 go_wp2_with (go_at_call 15;fail)
 refine HR.out.mono ?_
 rintro e w12 ⟨q,v,rfl,y1,y2,hv12,T12⟩
 obtain ⟨a,c,rfl,hac⟩:=hv12.is
 obtain ⟨g,off,rfl,_,z0,z1,z2⟩:=hv12.at (i:=0) (x:=(2,5,⟨#[]⟩)) rfl
 have y0:=T12.cell H11.out.2.2 (fun f=>f)
 rw [show ([(2,5,⟨#[]⟩)]:List Val3).length=1 from rfl] at y2
 simp at z1
 have HCK:=Lib.hid (check0_ db m1 m2 4 w12 (H11.out.1.db.touch0 T12))
 have H12:=Lib.hid T12
 clear hv12 hac T12 z0 z2
 go_wp2_with (go_at_call 11;fail)
 refine HCK.out.mono ?_
 rintro e w13 ⟨rfl,T13⟩
 have H13:=Lib.hid T13
 clear T13 y0 y1 y2 z1
 go_wp2_with (fail)
 go_returns
 refine ⟨rfl,?_⟩
 have h1:=HBS.out
 have h2:=H7.out.2.2.2.2.size
 have h3:=H10.out.size
 exact (((H7.out.2.2.2.2.trans H10.out fun _ _ f=>f).trans H11.out.2.1 fun b hb e=>by omega).trans H12.out fun _ _ f=>f).trans H13.out fun _ _ f=>f
end Go.Proofs.YtmnkinaaoifpeaaGreatDoor
