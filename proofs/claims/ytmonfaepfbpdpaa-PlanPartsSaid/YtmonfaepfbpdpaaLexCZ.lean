/- A part of the proof that the statement holds for every input that it names. No other condition. -/
import Derived.Test.YtmonfaepfbpdpaaP20Z
import Derived.Test.YtmonfaepfbpdpaaP11Z
set_option linter.unusedVariables false
set_option linter.unusedSimpArgs false
namespace Go.Proofs.Ytmonfaepfbpdpaa
open Go.RowKit
open Ux (i64B)
def BegR (w w':World) (e:Ending):Prop:= ∃q la ln lc at' er,e= .returned (.tuple #[.pointer (some ⟨q,0,none⟩),.agg #[.slice la ln lc,.int .i64 at',.int .i64 er]])∧i64B at'∧(0≤er∧er≤100)∧PS w' q la ln lc 0 0 0∧w.heap.size≤q∧Ux.Touch (fun _=>False) w w'
set_option maxHeartbeats 8000000 in
set_option maxRecDepth 100000 in
theorem begin_ (s:ByteArray) (w:World) (hs:s.size≤140737488355328):Calls Try.prog 29 #[.string s] w fun e w'=>BegR w w' e:=by
 obtain ⟨n,hn⟩: ∃n,s.size=n:=⟨_,rfl⟩
 obtain ⟨b3,hb3⟩: ∃b,w.heap.size=b:=⟨_,rfl⟩
 obtain ⟨W1,hW1⟩: ∃W,w.alloc (.cells #[.slice none 0 0,.int .i64 0,.int .i64 0] 69)=W:=⟨_,rfl⟩
 have t1:Ux.Touch (fun _=>False) w W1:=by rw [←hW1];exact (Ux.Touch.refl _ _).alloc _
 have r3:W1.heap[b3]? =some (.cells #[.slice none 0 0,.int .i64 0,.int .i64 0] 69 (0,0)):=by rw [←hW1,←hb3];exact heap_alloc_new w _
 have CT:=Lib.hid (tokens_ s W1 hs)
 have j0:(n:Int)≤140737488355328:=by omega
 have HP:=Lib.hid (And.intro t1 (And.intro r3 (And.intro hb3 j0)))
 clear t1 r3 hs
 go_enter Try.func29,Try.ntmps29
 go_wp2_with (go_at_call 35;fail)
 refine CT.out.mono ?_
 rintro e w2 ⟨la,ln,lc,at',er,rfl,hat,her,hln,hlc,htok,T2⟩
 have H2:=Lib.hid (And.intro hat (And.intro her (And.intro hln (And.intro hlc (And.intro htok T2)))))
 have n0:(ln:Int)≤4000:=by omega
 have n1:(ln:Int)≤lc:=by omega
 clear hat her hln hlc htok T2 hW1 hb3 CT
 obtain ⟨b4,hb4⟩: ∃b,w2.heap.size=b:=⟨_,rfl⟩
 obtain ⟨W3,hW3⟩: ∃W,w2.alloc (.cells #[.slice none 0 0,.int .i64 0,.int .i64 0] 69)=W:=⟨_,rfl⟩
 have t3:Ux.Touch (fun _=>False) w2 W3:=by rw [←hW3];exact (Ux.Touch.refl _ _).alloc _
 have r4:W3.heap[b4]? =some (.cells #[.slice none 0 0,.int .i64 0,.int .i64 0] 69 (0,0)):=by rw [←hW3,←hb4];exact heap_alloc_new w2 _
 go_wp2_with (refine Ux.is_store 69 rfl ?_;refine Ux.storeN rfl 69 _ _ rfl b4 _ rfl rfl 69 _ r4 (by kernel_rfl) rfl (by simp [Value.oneCell']) ?_)
 intro W4 q4 t4
 have T24:Ux.Touch (fun _=>False) w2 W4:=t3.trans (R:=fun _=>False) t4 fun b hb e=>by omega
 have hl3:b3<w2.heap.size:=Nat.lt_of_lt_of_le (Ux.lt_of_heap HP.out.2.1) H2.out.2.2.2.2.2.size
 have c0:=cell_of_row W4 b4 0 _ _ (0,0) q4
 have c1:=cell_of_row W4 b4 1 _ _ (0,0) q4
 have c2:=cell_of_row W4 b4 2 _ _ (0,0) q4
 simp at c0 c1 c2
 have HC:=Lib.hid fun W (T:Ux.Touch (fun _=>False) W4 W)=>And.intro (T.cell c0 (fun f=>f)) (And.intro (T.cell c1 (fun f=>f)) (T.cell c2 (fun f=>f)))
 have r3':=(H2.out.2.2.2.2.2.trans T24 fun _ _ f=>f.elim).heap HP.out.2.1 (fun f=>f)
 have HR:=Lib.hid fun W (T:Ux.Touch (fun _=>False) W4 W)=>T.heap r3' (fun f=>f)
 have H4:=Lib.hid (And.intro T24 (And.intro hl3 hb4))
 clear t3 r4 t4 q4 T24 r3' hW3 hb4 hl3
 go_upto_region 2 with (fail)
 obtain ⟨wk,hwk⟩: ∃W,W4.drew=W:=⟨_,rfl⟩
 have Tk:=Lib.hid (show Ux.Touch (fun _=>False) W4 wk by rw [←hwk];exact (Ux.Touch.refl _ _).drew)
 refine Ux.wpr (fun _ w'=>w'.cell? ⟨b4,0,none⟩=some (.slice la ln lc)∧w'.cell? ⟨b4,1,none⟩=some (.int .i64 at')∧w'.cell? ⟨b4,2,none⟩=some (.int .i64 er)) (.q [0,2,3] (.h false [1,6] (.q [4] (.e 5 true false (.q [7] (.line [8])))))) ?_;repeat ((with_reducible refine Ux.qg ?_);refine Ux.qu ?_)
 obtain ⟨q,hq⟩: ∃X,wk.heap.size=X:=⟨_,rfl⟩
 obtain ⟨wn,hwn⟩: ∃W,wk.alloc (.cells #[.slice la ln lc,.int .i64 0,.int .i64 0,.int .i64 0,.int .i64 0,.int .i64 (n:Int)] 74)=W:=⟨_,rfl⟩
 have HT6:=Lib.hid (show Ux.Touch (fun _=>False) wk wn by rw [←hwn];exact (Ux.Touch.refl _ _).alloc _)
 have HG:=Lib.hid (And.intro (show wn.heap[q]? =some (.cells #[.slice la ln lc,.int .i64 0,.int .i64 0,.int .i64 0,.int .i64 0,.int .i64 (n:Int)] 74 (0,0)) by rw [←hwn,←hq];exact heap_alloc_new wk _) (show w2.heap.size≤q by have h1:=H4.out.1.size;have h2:=Tk.out.size;omega))
 go_wp2_with (fail)
 clear hwn hq
 have Tk:=Lib.hid (Tk.out.trans HT6.out fun _ _ f=>f.elim)
 clear HT6
 obtain ⟨wk,rfl⟩: ∃W,W=wn:=⟨_,rfl⟩
 refine ⟨HC.out _ Tk.out,?_⟩
 repeat ((with_reducible refine Ux.qg ?_);refine Ux.qu ?_)
 have r3k:=HR.out wk Tk.out
 go_wp2_with (refine Ux.is_store 69 rfl ?_;refine Ux.storeN rfl 69 _ _ rfl b3 _ rfl rfl 69 _ r3k (by kernel_rfl) rfl (by simp [Value.oneCell']) ?_)
 intro W8 r8 t8
 go_wp2_with (fail)
 have x0:=cell_of_row W8 b3 0 _ _ (0,0) r8
 have x1:=cell_of_row W8 b3 1 _ _ (0,0) r8
 have x2:=cell_of_row W8 b3 2 _ _ (0,0) r8
 simp at x0 x1 x2
 refine bodyPost_ret (by simp [results,Try.results29,go_sem,x0,x1,x2];try rfl) rfl ?_
 have TT:Ux.Touch (fun _=>False) W1 wk:=(H2.out.2.2.2.2.2.trans H4.out.1 fun _ _ f=>f.elim).trans Tk.out fun _ _ f=>f.elim
 have T08:Ux.Touch (fun _=>False) w W8:=(HP.out.1.trans TT fun _ _ f=>f.elim).trans (R:=fun _=>False) t8 fun b hb e=>by have:=HP.out.2.2.1;omega
 have hlt:=H4.out.2.1
 have hw1:=Ux.lt_of_heap HP.out.2.1
 have T28:Ux.Touch (fun b=>b<W1.heap.size) w2 W8:=((H4.out.1.trans Tk.out fun _ _ f=>f.elim).mono fun _ _ f=>f.elim).trans t8 fun b _ e=>by have e:b=b3:=e;omega
 refine ⟨q,la,ln,lc,at',er,rfl,H2.out.1,H2.out.2.1,⟨⟨0,(n:Int),⟨by decide,by decide⟩,⟨by omega,by have:=HP.out.2.2.2;omega⟩,t8.heap HG.out.1 (by have:=HG.out.2;omega)⟩,H2.out.2.2.2.2.1 q W8 HG.out.2 T28,by omega,H2.out.2.2.1,H2.out.2.2.2.1,by omega,by omega⟩,by have:=HG.out.2;have:=HP.out.2.2.1;omega,T08⟩
end Go.Proofs.Ytmonfaepfbpdpaa
namespace Go.Proofs.Ytmonfaepfbpdpaa
open Go.RowKit
open Ux (i64B)
def toldC (k o:Int) (s t:ByteArray) (x:Int) (ua:Option Addr) (un uc:Nat) (at' er:Int):Array Value:= #[.int .i64 k,.int .i64 o,.string s,.string t,.int .i64 x,.slice ua un uc,.int .i64 0,.string ⟨#[]⟩,.string ⟨#[]⟩,.string ⟨#[]⟩,.int .i64 0,.int .i64 0,.slice none 0 0,.bool false,.bool false,.slice none 0 0,.slice none 0 0,.slice none 0 0,.slice none 0 0,.pointer none,.pointer none,.slice none 0 0,.slice none 0 0,.int .i64 0,.int .i64 0,.int .i64 at',.int .i64 er]
def ToldR (w w':World) (e:Ending):Prop:= ∃k o s t x ua un uc at' er,e= .returned (.agg (toldC k o s t x ua un uc at' er))∧NP w' (fun g=>w.heap.size≤g) (.agg #[.int .i64 k,.int .i64 o,.string s,.string t,.int .i64 x,.slice ua un uc])∧Ux.Touch (fun _=>False) w w'
theorem told_one (k o:Int) (s t:ByteArray) (x:Int) (ua:Option Addr) (un uc:Nat) (at' er:Int):(toldC k o s t x ua un uc at' er).all (·.oneCell')=true:=by simp [toldC,Value.oneCell']
set_option maxHeartbeats 8000000 in
set_option maxRecDepth 100000 in
theorem exprW_ (s:ByteArray) (w:World) (hs:s.size≤140737488355328):Calls Try.prog 17 #[.string s] w fun e w'=>ToldR w w' e:=by
 obtain ⟨b2,hb2⟩: ∃b,w.heap.size=b:=⟨_,rfl⟩
 obtain ⟨W1,hW1⟩: ∃W,w.alloc (.cells #[.int .i64 0,.int .i64 0,.string ⟨#[]⟩,.string ⟨#[]⟩,.int .i64 0,.slice none 0 0,.int .i64 0,.string ⟨#[]⟩,.string ⟨#[]⟩,.string ⟨#[]⟩,.int .i64 0,.int .i64 0,.slice none 0 0,.bool false,.bool false,.slice none 0 0,.slice none 0 0,.slice none 0 0,.slice none 0 0,.pointer none,.pointer none,.slice none 0 0,.slice none 0 0,.int .i64 0,.int .i64 0,.int .i64 0,.int .i64 0] 52)=W:=⟨_,rfl⟩
 have t1:Ux.Touch (fun _=>False) w W1:=by rw [←hW1];exact (Ux.Touch.refl _ _).alloc _
 have r2:W1.heap[b2]? =some (.cells #[.int .i64 0,.int .i64 0,.string ⟨#[]⟩,.string ⟨#[]⟩,.int .i64 0,.slice none 0 0,.int .i64 0,.string ⟨#[]⟩,.string ⟨#[]⟩,.string ⟨#[]⟩,.int .i64 0,.int .i64 0,.slice none 0 0,.bool false,.bool false,.slice none 0 0,.slice none 0 0,.slice none 0 0,.slice none 0 0,.pointer none,.pointer none,.slice none 0 0,.slice none 0 0,.int .i64 0,.int .i64 0,.int .i64 0,.int .i64 0] 52 (0,0)):=by rw [←hW1,←hb2];exact heap_alloc_new w _
 have CB:=Lib.hid (begin_ s W1 hs)
 have HP:=Lib.hid (And.intro t1 (And.intro r2 hb2))
 clear t1 r2 hs
 go_enter Try.func17,Try.ntmps17
 go_wp2_with (go_at_call 29;fail)
 refine CB.out.mono ?_
 rintro e w2 ⟨q,la,ln,lc,at',er,rfl,hat,her,hps,hq,T2⟩
 have hqb:b2<q:=by have:=Ux.lt_of_heap HP.out.2.1;omega
 have HQ:=Lib.hid hqb
 clear hq hqb
 have H2:=Lib.hid (And.intro hat (And.intro her (And.intro hps T2)))
 have e0:=her.1
 have e1:=her.2
 have n0:(ln:Int)≤4000:=by have:=hps.hn;omega
 have n1:(ln:Int)≤lc:=by have:=hps.hc;omega
 clear hat her hps T2 hW1 hb2 CB
 obtain ⟨b4,hb4⟩: ∃b,w2.heap.size=b:=⟨_,rfl⟩
 obtain ⟨W3,hW3⟩: ∃W,w2.alloc (.cells #[.slice none 0 0,.int .i64 0,.int .i64 0] 69)=W:=⟨_,rfl⟩
 have t3:Ux.Touch (fun _=>False) w2 W3:=by rw [←hW3];exact (Ux.Touch.refl _ _).alloc _
 have r4:W3.heap[b4]? =some (.cells #[.slice none 0 0,.int .i64 0,.int .i64 0] 69 (0,0)):=by rw [←hW3,←hb4];exact heap_alloc_new w2 _
 go_wp2_with (refine Ux.is_store 69 rfl ?_;refine Ux.storeN rfl 69 _ _ rfl b4 _ rfl rfl 69 _ r4 (by kernel_rfl) rfl (by simp [Value.oneCell']) ?_)
 intro W4 q4 t4
 have T24:Ux.Touch (fun _=>False) w2 W4:=t3.trans (R:=fun _=>False) t4 fun b hb e=>by omega
 have hl2:b2<w2.heap.size:=Nat.lt_of_lt_of_le (Ux.lt_of_heap HP.out.2.1) H2.out.2.2.2.size
 have c1:=cell_of_row W4 b4 1 _ _ (0,0) q4
 have c2:=cell_of_row W4 b4 2 _ _ (0,0) q4
 simp at c1 c2
 have T14:=H2.out.2.2.2.trans T24 fun _ _ f=>f.elim
 have h4:=H2.out.2.2.1.touch0 T24
 have r2':=T14.heap HP.out.2.1 (fun f=>f)
 have H4:=Lib.hid (And.intro T14 (And.intro hl2 (And.intro h4 r2')))
 clear t3 r4 t4 q4 T24 r2' hW3 hb4 hl2 T14 h4
 obtain ⟨ze,hze⟩: ∃b,(er !=0)=b:=⟨_,rfl⟩
 cases ze with
 |true=>
  have rb:=H4.out.2.2.2
  go_wp2_with (refine Ux.is_store 52 rfl ?_;refine Ux.storeN rfl 52 _ _ rfl b2 (toldC 0 0 ⟨#[]⟩ ⟨#[]⟩ 0 none 0 0 at' er) rfl rfl 52 _ rb (by kernel_rfl) rfl (told_one _ _ _ _ _ _ _ _ _ _) ?_)
  intro WE rE tE
  go_wp2_with (fail)
  refine bodyPost_ret (results_cell_row Try.results17 _ _ b2 52 _ (0,0) _ rfl rE Try.underlying52 rfl (by kernel_rfl)) rfl ?_
  refine ⟨0,0,⟨#[]⟩,⟨#[]⟩,0,none,0,0,at',er,rfl,NP.leaf _ _ 0 0 0 _ _ i64_0 i64_0 i64_0 (by decide) (by decide),?_⟩
  exact (HP.out.1.trans H4.out.1 fun _ _ f=>f.elim).trans (R:=fun _=>False) tE fun b hb e=>by have:=HP.out.2.2;omega
 |false=>
  have HR:=Lib.hid ((read_all q la ln lc ln).1 W4 0 0 0 H4.out.2.2.1 (.inr (by omega)))
  go_wp2_with (go_at_call 30;fail)
  refine HR.out.mono ?_
  rintro e w5 ⟨k,o,s5,t5,x,ua,un,uc,rfl,hnp,⟨I5,E5,hI5,hps5⟩,T5⟩
  have hq0:=HQ.out
  have H5:=Lib.hid (And.intro hnp (And.intro hps5 (And.intro T5 hq0)))
  clear hnp hI5 hps5 T5 hq0 c1 c2 HR
  obtain ⟨b5,hb5⟩: ∃b,w5.heap.size=b:=⟨_,rfl⟩
  obtain ⟨W6,hW6⟩: ∃W,w5.alloc (.cells #[.int .i64 0,.int .i64 0,.string ⟨#[]⟩,.string ⟨#[]⟩,.int .i64 0,.slice none 0 0] 24)=W:=⟨_,rfl⟩
  have t6:Ux.Touch (fun _=>False) w5 W6:=by rw [←hW6];exact (Ux.Touch.refl _ _).alloc _
  have r5:W6.heap[b5]? =some (.cells #[.int .i64 0,.int .i64 0,.string ⟨#[]⟩,.string ⟨#[]⟩,.int .i64 0,.slice none 0 0] 24 (0,0)):=by rw [←hW6,←hb5];exact heap_alloc_new w5 _
  go_wp2_with (refine Ux.is_store 24 rfl ?_;refine Ux.store6 rfl 24 _ _ rfl b5 _ _ _ _ _ _ rfl rfl 24 _ _ _ _ _ _ r5 (by kernel_rfl) (Ux.six_one _ _ _ _ _ _ _ _) ?_)
  intro W7 r7 t7
  have T57:Ux.Touch (fun _=>False) w5 W7:=t6.trans (R:=fun _=>False) t7 fun b hb e=>by omega
  have h7:=H5.out.2.1.touch0 T57
  have r2':=(H5.out.2.2.1.trans (R':=fun _=>False) T57 fun _ _ f=>f.elim).heap H4.out.2.2.2 (by have:=H5.out.2.2.2;omega)
  have hl5:b2<b5:=by have:=(H5.out.2.2.1.heap H4.out.2.2.2 (by have:=H5.out.2.2.2;omega));have:=Ux.lt_of_heap this;omega
  have H7:=Lib.hid (And.intro T57 (And.intro h7 (And.intro r2' (And.intro r7 (And.intro hb5 hl5)))))
  obtain ⟨d0,d1,d2,d4⟩:=h7.cells
  have i0:(0:Int)≤I5:=by omega
  have i5:(I5:Int)≤4000:=by have:=h7.hn;have:=h7.hI;omega
  clear t6 r5 r7 t7 T57 h7 r2' hW6 hb5 hl5
  go_upto_region 5 with (fail)
  refine Ux.wpr (fun _ w'=>w'.cell? ⟨q,0,none⟩=some (.slice la ln lc)∧w'.cell? ⟨q,1,none⟩=some (.int .i64 (I5:Int))) (.q [0,1,2,4,5,6] (.h false [3,7] (.q [8,9] (.line [])))) ?_;repeat ((with_reducible refine Ux.qg ?_);refine Ux.qu ?_)
  have h7:=H7.out.2.1.touch0 (Ux.Touch.refl _ W7).drew
  have H8:=Lib.hid (And.intro h7 (fail_ q la ln lc I5 E5 0 10 (by decide) 10 rfl W7.drew h7))
  clear h7 d0 d1 d2 d4
  obtain ⟨z,hz⟩: ∃b,decide (I5<ln)=b:=⟨_,rfl⟩
  rw [hz]
  clear hz
  go_upto_if 30 with (fail)
  go_cut [30] (fun s30 wx=> ∃E6,Hid (PS wx q la ln lc I5 E6 0∧Ux.Touch (fun b=>b=q) W7 wx))
  case first=>
   cases z with
   |true=>
    go_wp2_with (go_at_call 31;fail)
    refine H8.out.2.mono ?_
    rintro e w8 ⟨rfl,h8,T8⟩
    have HF:=Lib.hid (And.intro h8 (Ux.Touch.of_drew T8))
    clear h8 T8
    go_wp2_with (fail)
    go_meet
    exact ⟨_,HF⟩
   |false=>
    go_wp2_with (fail)
    go_meet
    exact ⟨_,Lib.hid ⟨H8.out.1,(Ux.Touch.refl _ _).drew⟩⟩
  obtain ⟨E6,HE⟩:=hcut
  clear H8
  have h9:=HE.out.1
  obtain ⟨_,_,d2,_⟩:=h9.cells
  obtain ⟨At,End,hAt,hEnd,d3,d5⟩:=h9.end
  have hb5q:q<b5:=by have h1:=H5.out.2.1.lt;have:=H7.out.2.2.2.2.1;omega
  have rc:=HE.out.2.heap H7.out.2.2.1 (by have:=H5.out.2.2.2;omega)
  have r5c:=HE.out.2.heap H7.out.2.2.2.1 (by omega)
  have HRC:=Lib.hid rc
  have HT:Hid (Ux.Touch (fun _=>False) w wc):=Lib.hid (((HP.out.1.trans H4.out.1 fun _ _ f=>f.elim).trans (R:=fun _=>False) (H5.out.2.2.1.trans (R:=fun b=>b=q) (H7.out.1.mono (R':=fun b=>b=q) fun _ _ f=>f.elim) fun _ _ e=>e) fun b hb e=>by have:=HQ.out;have:=HP.out.2.2;omega).trans (R:=fun _=>False) HE.out.2 fun b hb e=>by have:=HQ.out;have:=HP.out.2.2;omega)
  have hnpc:NP wc (fun g=>W4.heap.size≤g) (.agg #[.int .i64 k,.int .i64 o,.string s5,.string t5,.int .i64 x,.slice ua un uc]):=by
   have hs4:q<W4.heap.size:=H4.out.2.2.1.lt
   exact ((H5.out.1.touch0 H7.out.1).touch HE.out.2 fun g _ h e=>by have h:W4.heap.size≤g:=h;omega)
  have HNP:=Lib.hid hnpc
  have HAE:=Lib.hid (And.intro hAt hEnd)
  clear h9 rc hb5q hnpc hAt hEnd d5
  obtain ⟨ze,hze⟩: ∃b,((E6:Int) !=0)=b:=⟨_,rfl⟩
  cases ze with
  |true=>
   clear r5c
   go_upto_region 8 with (fail)
   refine Ux.wpr (fun _ w'=>w'.cell? ⟨q,3,none⟩=some (.int .i64 At)∧w'.cell? ⟨q,2,none⟩=some (.int .i64 (E6:Int))) (.q [0,1,2,4,5,6] (.h false [3,7] (.q [8] (.line [9])))) ?_;repeat ((with_reducible refine Ux.qg ?_);refine Ux.qu ?_)
   have rb:=(Ux.Touch.refl (fun _=>False) wc).drew.heap HRC.out (fun f=>f)
   go_wp2_with (refine Ux.is_store 52 rfl ?_;refine Ux.storeN rfl 52 _ _ rfl b2 (toldC 0 0 ⟨#[]⟩ ⟨#[]⟩ 0 none 0 0 At E6) rfl rfl 52 _ rb (by kernel_rfl) rfl (told_one _ _ _ _ _ _ _ _ _ _) ?_)
   intro WE rE tE
   go_wp2_with (fail)
   refine bodyPost_ret (results_cell_row Try.results17 _ _ b2 52 _ (0,0) _ rfl rE Try.underlying52 rfl (by kernel_rfl)) rfl ?_
   refine ⟨0,0,⟨#[]⟩,⟨#[]⟩,0,none,0,0,At,E6,rfl,NP.leaf _ _ 0 0 0 _ _ i64_0 i64_0 i64_0 (by decide) (by decide),?_⟩
   exact (HT.out.drew).trans (R:=fun _=>False) tE fun b hb e=>by have:=HP.out.2.2;omega
  |false=>
   clear d3
   have y0:=row6 r5c 0
   have y1:=row6 r5c 1
   have y2:=row6 r5c 2
   have y3:=row6 r5c 3
   have y4:=row6 r5c 4
   have y5:=row6 r5c 5
   simp at y0 y1 y2 y3 y4 y5
   clear r5c
   have rb:=HRC.out
   go_wp2_with (refine Ux.is_store 52 rfl ?_;refine Ux.storeN rfl 52 _ _ rfl b2 (toldC k o s5 t5 x ua un uc 0 0) rfl rfl 52 _ rb (by kernel_rfl) rfl (told_one _ _ _ _ _ _ _ _ _ _) ?_)
   intro WE rE tE
   go_wp2_with (fail)
   refine bodyPost_ret (results_cell_row Try.results17 _ _ b2 52 _ (0,0) _ rfl rE Try.underlying52 rfl (by kernel_rfl)) rfl ?_
   have hl:b2<wc.heap.size:=Ux.lt_of_heap HRC.out
   refine ⟨k,o,s5,t5,x,ua,un,uc,0,0,rfl,(HNP.out.touch tE fun g _ h e=> ?_).mono fun g _ h=> ?_,?_⟩
   ·have h:W4.heap.size≤g:=h
    have:=Ux.lt_of_heap H4.out.2.2.2
    omega
   ·have h:W4.heap.size≤g:=h
    have:=Ux.lt_of_heap H4.out.2.2.2
    have:=HP.out.2.2
    show w.heap.size≤g
    omega
   ·exact HT.out.trans (R:=fun _=>False) tE fun b hb e=>by have:=HP.out.2.2;omega
end Go.Proofs.Ytmonfaepfbpdpaa
