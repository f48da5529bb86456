/- A part of the proof that the statement holds for every input that it names. No other condition. -/
import Derived.Test.YtmonfaepfbpdpaaPsAZ
set_option linter.unusedVariables false
set_option linter.unusedSimpArgs false
namespace Go.Proofs.Ytmonfaepfbpdpaa
open Go.RowKit
open Ux (i64B ND NRows nodV Nod)
def ReadC (fn:FuncId) (q:Nat) (a:Option Addr) (n c m:Nat) (args:Array Value):Prop:= ∀(w:World) (I E D:Nat),PS w q a n c I E D→(E≠0∨n-I≤m)→Calls Try.prog fn (#[.pointer (some ⟨q,0,none⟩)]++args) w fun e w'=> ∃k o s t x ua un uc,e= .returned (.agg #[.int .i64 k,.int .i64 o,.string s,.string t,.int .i64 x,.slice ua un uc])∧ExpR w w' q a n c I E D (.agg #[.int .i64 k,.int .i64 o,.string s,.string t,.int .i64 x,.slice ua un uc])
set_option maxHeartbeats 8000000 in
set_option maxRecDepth 100000 in
theorem expr11_ (q:Nat) (a:Option Addr) (n c m:Nat) (HF0:ReadC 39 q a n c m #[]) (I D:Nat) (w:World) (h:PS w q a n c I 0 D) (hm:n-I≤m):
 Calls Try.prog 30 #[.pointer (some ⟨q,0,none⟩),.int .i64 11] w fun e w'=> ∃k o s t x ua un uc,e= .returned (.agg #[.int .i64 k,.int .i64 o,.string s,.string t,.int .i64 x,.slice ua un uc])∧ExpR w w' q a n c I 0 D (.agg #[.int .i64 k,.int .i64 o,.string s,.string t,.int .i64 x,.slice ua un uc]):=by
 obtain ⟨b4,hb4⟩: ∃b,w.heap.size=b:=⟨_,rfl⟩
 obtain ⟨W1,hW1⟩: ∃W,w.alloc (.cells #[.int .i64 0,.int .i64 0,.string ⟨#[]⟩,.string ⟨#[]⟩,.int .i64 0,.slice none 0 0] 24)=W:=⟨_,rfl⟩
 have t1:Ux.Touch (fun _=>False) w W1:=by rw [←hW1];exact (Ux.Touch.refl _ _).alloc _
 have r4:W1.heap[b4]? =some (.cells #[.int .i64 0,.int .i64 0,.string ⟨#[]⟩,.string ⟨#[]⟩,.int .i64 0,.slice none 0 0] 24 (0,0)):=by rw [←hW1,←hb4];exact heap_alloc_new w _
 have s1:W1.heap.size=b4+1:=by rw [←hW1,World.size_alloc,hb4]
 have hqq:=h.lt
 have h1:=h.touch0 t1
 obtain ⟨d0,d1,d2,d4⟩:=h1.cells
 have HF:=Lib.hid (HF0 W1 I 0 D h1 (.inr hm))
 clear HF0 hm
 have HP:=Lib.hid (And.intro h1 (And.intro (show q<b4 by omega) (And.intro t1 (And.intro r4 (And.intro s1 hb4)))))
 clear h h1 t1 hqq r4 s1
 go_enter Try.func30,Try.ntmps30
 go_wp2_with (go_at_call 39;fail)
 refine HF.out.mono ?_
 rintro e w2 ⟨k,o,s,t,x,ua,un,uc,rfl,hnp,⟨I2,E2,hI2,hps⟩,T2⟩
 have b2:=T2.size
 clear d0 d1 d2 d4 hW1
 obtain ⟨b7,hb7⟩: ∃b,w2.heap.size=b:=⟨_,rfl⟩
 obtain ⟨Z7,hZ7⟩: ∃W,w2.alloc (.cells #[.int .i64 0,.int .i64 0,.string ⟨#[]⟩,.string ⟨#[]⟩,.int .i64 0,.slice none 0 0] 24)=W:=⟨_,rfl⟩
 have rz7:Z7.heap[b7]? =some (.cells #[.int .i64 0,.int .i64 0,.string ⟨#[]⟩,.string ⟨#[]⟩,.int .i64 0,.slice none 0 0] 24 (0,0)):=by rw [←hZ7,←hb7];exact heap_alloc_new w2 _
 have tz7:Ux.Touch (fun _=>False) w2 Z7:=by rw [←hZ7];exact (Ux.Touch.refl _ _).alloc _
 go_wp2_with (refine Ux.is_store 24 rfl ?_;refine Ux.store6 rfl 24 _ _ rfl b7 _ _ _ _ _ _ rfl rfl 24 _ _ _ _ _ _ rz7 (by kernel_rfl) (Ux.six_one _ _ _ _ _ _ _ _) ?_)
 intro W7 r7 t7
 have u7:Ux.Touch (fun _=>False) w2 W7:=tz7.trans (R:=fun _=>False) t7 fun b hb e=>by omega
 clear hZ7 rz7 tz7 t7
 have hnp7:NP W7 (fun g=>b4≤g∧g≠b4∧g≠b7) (.agg #[.int .i64 k,.int .i64 o,.string s,.string t,.int .i64 x,.slice ua un uc]):=(hnp.mono (A':=fun g=>b4≤g∧g≠b4∧g≠b7) fun g h1 h2=>by have:=HP.out.2.2.2.2.1;omega).touch0 u7
 have r47:W7.heap[b4]? =_:=u7.heap (T2.heap HP.out.2.2.2.1 (by have:=HP.out.2.1;omega)) (fun f=>f)
 have HB:=Lib.hid (And.intro (show b4<b7 by have:=HP.out.2.2.2.2.1;omega) (And.intro (hps.touch0 u7) (And.intro hI2 (((HP.out.2.2.1.mono (fun _ _ f=>f.elim):Ux.Touch (fun b=>b=q) w W1).trans T2 fun _ _ e=>e).trans u7 fun _ _ f=>f.elim))))
 have HN:=Lib.hid (And.intro r7 (And.intro hnp7 r47))
 clear r7 hnp7 r47 hnp hps hI2 T2 u7 b2 hb7
 go_wp2_with (fail)
 go_loopg [] (n+1) (fun gk wr=> ∃(k o:Int) (s t:ByteArray) (x:Int) (ua:Option Addr) (un uc I3 E3:Nat),n+1-I3≤gk∧Hid (PS wr q a n c I3 E3 D∧ExpP I 0 I3 E3∧wr.heap[b7]? =some (.cells #[.int .i64 k,.int .i64 o,.string s,.string t,.int .i64 x,.slice ua un uc] 24 (0,0))∧NP wr (fun g=>b4≤g∧g≠b4∧g≠b7) (.agg #[.int .i64 k,.int .i64 o,.string s,.string t,.int .i64 x,.slice ua un uc])∧wr.heap[b4]? =some (.cells #[.int .i64 0,.int .i64 0,.string ⟨#[]⟩,.string ⟨#[]⟩,.int .i64 0,.slice none 0 0] 24 (0,0))∧Ux.Touch (fun b=>b=q) w wr))
 case atStart=>exact ⟨k,o,s,t,x,ua,un,uc,I2,E2,by omega,Lib.hid ⟨HB.out.2.1,HB.out.2.2.1,HN.out.1,HN.out.2.1,HN.out.2.2,HB.out.2.2.2⟩⟩
 case round=>
  obtain ⟨k,o,s,t,x,ua,un,uc,I3,E3,hgk,HI⟩:=hrel
  have HPS:=Lib.hid (take_ q a n c I3 E3 D ⟨#[67,79,76,76,65,84,69]⟩ wr HI.out.1)
  go_wp2_with (go_at_call 40;fail)
  refine HPS.out.mono ?_
  rintro e w5 ⟨tk,rfl,htk,T5⟩
  have r7:=T5.heap HI.out.2.2.1 (by have:=HP.out.2.1;have:=HB.out.1;omega)
  have r4:=T5.heap HI.out.2.2.2.2.1 (by have:=HP.out.2.1;omega)
  have hnp5:=HI.out.2.2.2.1.touch T5 fun g _ h e=>by have:=HP.out.2.1;omega
  have H5:=Lib.hid (And.intro r7 (And.intro hnp5 (And.intro r4 (HI.out.2.2.2.2.2.trans T5 fun _ _ e=>e))))
  have HTK:=Lib.hid htk
  clear r4 hnp5 htk T5
  cases tk with
  |false=>
   clear hgk
   have y0:=row6 r7 0
   have y1:=row6 r7 1
   have y2:=row6 r7 2
   have y3:=row6 r7 3
   have y4:=row6 r7 4
   have y5:=row6 r7 5
   simp at y0 y1 y2 y3 y4 y5
   clear r7
   go_wp2_with (refine Ux.is_store 24 rfl ?_;refine Ux.store6 rfl 24 _ _ rfl b4 _ _ _ _ _ _ rfl rfl 24 _ _ _ _ _ _ H5.out.2.2.1 (by kernel_rfl) (Ux.six_one _ _ _ _ _ _ _ _) ?_)
   intro W9 r9 t9
   go_wp2_with (fail)
   clear y0 y1 y2 y3 y4 y5
   have x0:=row6 r9 0
   have x1:=row6 r9 1
   have x2:=row6 r9 2
   have x3:=row6 r9 3
   have x4:=row6 r9 4
   have x5:=row6 r9 5
   simp at x0 x1 x2 x3 x4 x5
   refine bodyPost_ret (by simp [results,Try.results30,go_sem,x0,x1,x2,x3,x4,x5];try rfl) rfl ?_
   have T9:Ux.Touch (fun b=>b=q) w W9:=H5.out.2.2.2.trans t9 fun b hb e=>by have:=HP.out.2.2.2.2.2;omega
   exact ⟨_,_,_,_,_,_,_,_,rfl,(H5.out.2.1.touch t9 fun g _ h e=>h.2.1 e).mono fun g _ h=>by have:=HP.out.2.2.2.2.2;omega,⟨I3,E3,HI.out.2.1,HTK.out.false.touch t9 fun b hb e=>by have:=HP.out.2.1;omega⟩,T9⟩
  |true=>
   obtain ⟨hE3,hlt,hps⟩:=HTK.out.true
   subst hE3
   obtain ⟨g',rfl⟩: ∃g',gk=g'+1:=⟨gk-1,by omega⟩
   have hI3:=(HI.out.2.1 rfl).2
   have HI3:=Lib.hid (And.intro hI3 hlt)
   have HR7:=Lib.hid fun W (T:Ux.Touch (fun b=>b=q) w5 W)=>T.heap r7 (by have:=HP.out.2.1;have:=HB.out.1;omega)
   have y0:=row6 r7 0
   have y1:=row6 r7 1
   have y2:=row6 r7 2
   have y3:=row6 r7 3
   have y4:=row6 r7 4
   have y5:=row6 r7 5
   simp at y0 y1 y2 y3 y4 y5
   have HKC:=Lib.hid fun W (T:Ux.Touch (fun b=>b=q) w5 W)=>have hne: ¬b7=q:=(by have:=HP.out.2.1;have:=HB.out.1;omega);And.intro (T.cell y0 hne) (And.intro (T.cell y1 hne) (And.intro (T.cell y2 hne) (And.intro (T.cell y3 hne) (And.intro (T.cell y4 hne) (T.cell y5 hne)))))
   clear hI3 hlt r7
   go_upto_region 27 with (fail)
   obtain ⟨wk,hwk⟩: ∃W,w5.drew=W:=⟨_,rfl⟩
   have Tk:=Lib.hid (show Ux.Touch (fun b=>b=q) w5 wk by rw [←hwk];exact (Ux.Touch.refl _ _).drew)
   have HPK:=Lib.hid (show PS wk q a n c (I3+1) 0 D by rw [←hwk];exact hps.touch0 (Ux.Touch.refl _ _).drew)
   clear hps
   refine Ux.wpr (fun _ w'=>w'.cell? ⟨b7,0,none⟩=some (.int .i64 k)∧w'.cell? ⟨b7,1,none⟩=some (.int .i64 o)∧w'.cell? ⟨b7,2,none⟩=some (.string s)∧w'.cell? ⟨b7,3,none⟩=some (.string t)∧w'.cell? ⟨b7,4,none⟩=some (.int .i64 x)∧w'.cell? ⟨b7,5,none⟩=some (.slice ua un uc)) (.q [0] (.h false [2] (.br 1 (.e 3 false false (.q [4] (.line [5]))) 3 (.e 1 true true (.q [4] (.line [5])))))) ?_;repeat ((with_reducible refine Ux.qg ?_);refine Ux.qu ?_)
   refine ⟨?_,?_⟩
   ·go_wp2_with (go_at_call 41;fail)
    refine (name_ q a n c (I3+1) 0 D wk HPK.out).mono ?_
    rintro e wn ⟨sn,I6,E6,rfl,hs6,hN6,hps6,T6⟩
    have HN6:=Lib.hid (And.intro hs6 (And.intro hN6 hps6))
    have HT6:=Lib.hid T6
    clear hs6 hN6 hps6 T6
    go_wp2_with (fail)
    try (have HG:=Lib.hid (And.intro (HT6.out.heap HG.out.1 (by have:=HG.out.2;have:=HP.out.2.1;omega)) HG.out.2))
    have Tk:=Lib.hid (Tk.out.trans HT6.out fun _ _ e=>e)
    clear HT6 HPK
    obtain ⟨wk,rfl⟩: ∃W,W=wn:=⟨_,rfl⟩
    first|refine ⟨⟨HKC.out _ Tk.out,HKC.out _ Tk.out⟩,?_⟩|refine ⟨HKC.out _ Tk.out,?_⟩
    obtain ⟨g9,hg9⟩: ∃X,wk.heap.size=X:=⟨_,rfl⟩
    obtain ⟨wn,hwn⟩: ∃W,wk.alloc (.cells #[.int .i64 k,.int .i64 o,.string s,.string t,.int .i64 x,.slice ua un uc] 24)=W:=⟨_,rfl⟩
    have HT6:=Lib.hid (show Ux.Touch (fun _=>False) wk wn by rw [←hwn];exact (Ux.Touch.refl _ _).alloc _)
    have HG:=Lib.hid (And.intro (show wn.heap[g9]? =some (.cells #[.int .i64 k,.int .i64 o,.string s,.string t,.int .i64 x,.slice ua un uc] 24 (0,0)) by rw [←hwn,←hg9];exact heap_alloc_new wk _) (show b7<g9∧q<g9 by have h1:=Ux.lt_of_heap (HR7.out wk Tk.out);have:=HP.out.2.1;have:=HB.out.1;omega))
    go_wp2_with (fail)
    clear hwn hg9
    try (have HPK:=Lib.hid (HPK.out.touch0 HT6.out))
    try (have HN6:=Lib.hid (And.intro HN6.out.1 (And.intro HN6.out.2.1 (HN6.out.2.2.touch0 HT6.out))))
    have Tk:=Lib.hid (Tk.out.trans HT6.out fun _ _ f=>f.elim)
    clear HT6
    obtain ⟨wk,rfl⟩: ∃W,W=wn:=⟨_,rfl⟩
    repeat ((with_reducible refine Ux.qg ?_);refine Ux.qu ?_)
    have r7k:=HR7.out wk Tk.out
    have hnpk:=H5.out.2.1.touch Tk.out fun g _ h e=>by have:=HP.out.2.1;omega
    go_wp2_with (refine Ux.is_store 24 rfl ?_;refine Ux.store6 rfl 24 _ _ rfl b7 _ _ _ _ _ _ rfl rfl 24 _ _ _ _ _ _ r7k (by kernel_rfl) (Ux.six_one _ _ _ _ _ _ _ _) ?_)
    intro W8 r8 t8
    go_wp2_with (fail)
    go_roundg g'
    case measure=>omega
    case rel=>
     have gr:=t8.heap HG.out.1 (by have:=HG.out.2;omega)
     have hnp8:=hnpk.touch t8 fun g _ h e=>h.2.2 e
     refine ⟨11,0,sn,⟨#[]⟩,0,some ⟨g9,0,none⟩,1,1,I6,E6,?_,Lib.hid ⟨HN6.out.2.2.touch t8 fun b hb e=>by have:=HP.out.2.1;have:=HB.out.1;omega,fun h=> ?_,r8,?_,?_,?_⟩⟩
     ·have:=HN6.out.2.1.2;have:=HI3.out.2;omega
     ·have:=HN6.out.2.1.1 h;have:=HI3.out.1;omega
     ·exact NP.node 11 0 0 sn ⟨#[]⟩ (by unfold i64B;omega) i64_0 i64_0 HN6.out.1 (by decide) _ 1 1 (Nat.le_refl _) (by decide) fun i hi=>by
       obtain rfl:i=0:=by omega
       exact ⟨_,six_row gr (by have:=HG.out.2;have:=HP.out.2.2.2.2.2;have:=HB.out.1;omega) 0 _ _ _ _ _ _ rfl rfl rfl rfl rfl rfl,hnp8⟩
     ·exact t8.heap (Tk.out.heap H5.out.2.2.1 (by have:=HP.out.2.1;omega)) (by have:=HB.out.1;omega)
     ·exact (H5.out.2.2.2.trans Tk.out fun _ _ e=>e).trans t8 fun b hb e=>by have:=HB.out.1;have:=HP.out.2.2.2.2.2;omega
   ·obtain ⟨g9,hg9⟩: ∃X,wk.heap.size=X:=⟨_,rfl⟩
    obtain ⟨wn,hwn⟩: ∃W,wk.alloc (.cells #[.int .i64 k,.int .i64 o,.string s,.string t,.int .i64 x,.slice ua un uc] 24)=W:=⟨_,rfl⟩
    have HT6:=Lib.hid (show Ux.Touch (fun _=>False) wk wn by rw [←hwn];exact (Ux.Touch.refl _ _).alloc _)
    have HG:=Lib.hid (And.intro (show wn.heap[g9]? =some (.cells #[.int .i64 k,.int .i64 o,.string s,.string t,.int .i64 x,.slice ua un uc] 24 (0,0)) by rw [←hwn,←hg9];exact heap_alloc_new wk _) (show b7<g9∧q<g9 by have h1:=Ux.lt_of_heap (HR7.out wk Tk.out);have:=HP.out.2.1;have:=HB.out.1;omega))
    go_wp2_with (fail)
    clear hwn hg9
    try (have HPK:=Lib.hid (HPK.out.touch0 HT6.out))
    try (have HN6:=Lib.hid (And.intro HN6.out.1 (And.intro HN6.out.2.1 (HN6.out.2.2.touch0 HT6.out))))
    have Tk:=Lib.hid (Tk.out.trans HT6.out fun _ _ f=>f.elim)
    clear HT6
    obtain ⟨wk,rfl⟩: ∃W,W=wn:=⟨_,rfl⟩
    first|refine ⟨⟨HKC.out _ Tk.out,HKC.out _ Tk.out⟩,?_⟩|refine ⟨HKC.out _ Tk.out,?_⟩
    go_wp2_with (go_at_call 41;fail)
    refine (name_ q a n c (I3+1) 0 D wk HPK.out).mono ?_
    rintro e wn ⟨sn,I6,E6,rfl,hs6,hN6,hps6,T6⟩
    have HN6:=Lib.hid (And.intro hs6 (And.intro hN6 hps6))
    have HT6:=Lib.hid T6
    clear hs6 hN6 hps6 T6
    go_wp2_with (fail)
    try (have HG:=Lib.hid (And.intro (HT6.out.heap HG.out.1 (by have:=HG.out.2;have:=HP.out.2.1;omega)) HG.out.2))
    have Tk:=Lib.hid (Tk.out.trans HT6.out fun _ _ e=>e)
    clear HT6 HPK
    obtain ⟨wk,rfl⟩: ∃W,W=wn:=⟨_,rfl⟩
    first|refine ⟨⟨HKC.out _ Tk.out,HKC.out _ Tk.out⟩,?_⟩|refine ⟨HKC.out _ Tk.out,?_⟩
    repeat ((with_reducible refine Ux.qg ?_);refine Ux.qu ?_)
    have r7k:=HR7.out wk Tk.out
    have hnpk:=H5.out.2.1.touch Tk.out fun g _ h e=>by have:=HP.out.2.1;omega
    go_wp2_with (refine Ux.is_store 24 rfl ?_;refine Ux.store6 rfl 24 _ _ rfl b7 _ _ _ _ _ _ rfl rfl 24 _ _ _ _ _ _ r7k (by kernel_rfl) (Ux.six_one _ _ _ _ _ _ _ _) ?_)
    intro W8 r8 t8
    go_wp2_with (fail)
    go_roundg g'
    case measure=>omega
    case rel=>
     have gr:=t8.heap HG.out.1 (by have:=HG.out.2;omega)
     have hnp8:=hnpk.touch t8 fun g _ h e=>h.2.2 e
     refine ⟨11,0,sn,⟨#[]⟩,0,some ⟨g9,0,none⟩,1,1,I6,E6,?_,Lib.hid ⟨HN6.out.2.2.touch t8 fun b hb e=>by have:=HP.out.2.1;have:=HB.out.1;omega,fun h=> ?_,r8,?_,?_,?_⟩⟩
     ·have:=HN6.out.2.1.2;have:=HI3.out.2;omega
     ·have:=HN6.out.2.1.1 h;have:=HI3.out.1;omega
     ·exact NP.node 11 0 0 sn ⟨#[]⟩ (by unfold i64B;omega) i64_0 i64_0 HN6.out.1 (by decide) _ 1 1 (Nat.le_refl _) (by decide) fun i hi=>by
       obtain rfl:i=0:=by omega
       exact ⟨_,six_row gr (by have:=HG.out.2;have:=HP.out.2.2.2.2.2;have:=HB.out.1;omega) 0 _ _ _ _ _ _ rfl rfl rfl rfl rfl rfl,hnp8⟩
     ·exact t8.heap (Tk.out.heap H5.out.2.2.1 (by have:=HP.out.2.1;omega)) (by have:=HB.out.1;omega)
     ·exact (H5.out.2.2.2.trans Tk.out fun _ _ e=>e).trans t8 fun b hb e=>by have:=HB.out.1;have:=HP.out.2.2.2.2.2;omega
end Go.Proofs.Ytmonfaepfbpdpaa
namespace Go.Proofs.Ytmonfaepfbpdpaa
open Go.RowKit
open Ux (i64B ND NRows nodV Nod)
theorem inP_false {w:World} {q:Nat} {a:Option Addr} {n c I E D:Nat} (h:InP w q a n c I E D false): ∃E',E'≠0∧PS w q a n c I E' D:=by
 unfold InP at h
 rwa [if_neg (by simp)] at h
theorem inP_true {w:World} {q:Nat} {a:Option Addr} {n c I E D:Nat} (h:InP w q a n c I E D true):D<24∧PS w q a n c I 0 (D+1):=by
 unfold InP at h
 rw [if_pos rfl] at h
 exact h.2
set_option maxHeartbeats 8000000 in
set_option maxRecDepth 100000 in
theorem expr10_ (q:Nat) (a:Option Addr) (n c m:Nat) (HU0:ReadC 30 q a n c m #[.int .i64 11]) (HS0: ∀m',m'<m→ReadC 30 q a n c m' #[.int .i64 10]) (I D:Nat) (w:World) (h:PS w q a n c I 0 D) (hm:n-I≤m):
 Calls Try.prog 30 #[.pointer (some ⟨q,0,none⟩),.int .i64 10] w fun e w'=> ∃k o s t x ua un uc,e= .returned (.agg #[.int .i64 k,.int .i64 o,.string s,.string t,.int .i64 x,.slice ua un uc])∧ExpR w w' q a n c I 0 D (.agg #[.int .i64 k,.int .i64 o,.string s,.string t,.int .i64 x,.slice ua un uc]):=by
 obtain ⟨b4,hb4⟩: ∃b,w.heap.size=b:=⟨_,rfl⟩
 obtain ⟨W1,hW1⟩: ∃W,w.alloc (.cells #[.int .i64 0,.int .i64 0,.string ⟨#[]⟩,.string ⟨#[]⟩,.int .i64 0,.slice none 0 0] 24)=W:=⟨_,rfl⟩
 have t1:Ux.Touch (fun _=>False) w W1:=by rw [←hW1];exact (Ux.Touch.refl _ _).alloc _
 have r4:W1.heap[b4]? =some (.cells #[.int .i64 0,.int .i64 0,.string ⟨#[]⟩,.string ⟨#[]⟩,.int .i64 0,.slice none 0 0] 24 (0,0)):=by rw [←hW1,←hb4];exact heap_alloc_new w _
 have s1:W1.heap.size=b4+1:=by rw [←hW1,World.size_alloc,hb4]
 have hqq:=h.lt
 have h1:=h.touch0 t1
 obtain ⟨d0,d1,d2,d4⟩:=h1.cells
 have HIS:=Lib.hid (is_ q a n c I 0 D ⟨#[45]⟩ W1 h1)
 have HM:=Lib.hid (And.intro hm (And.intro HU0 HS0))
 clear HU0 HS0 hm
 have HP:=Lib.hid (And.intro h1 (And.intro (show q<b4 by omega) (And.intro t1 (And.intro r4 (And.intro s1 hb4)))))
 clear h h1 t1 hqq r4 s1
 go_enter Try.func30,Try.ntmps30
 clear d0 d1 d4
 go_wp2_with (go_at_call 36;fail)
 refine HIS.out.mono ?_
 rintro e w2 ⟨b,rfl,hb,T2⟩
 have hps2:=HP.out.1.touch0 T2
 have r42:=T2.heap HP.out.2.2.2.1 (fun f=>f)
 have H2:=Lib.hid (And.intro hb (And.intro hps2 (And.intro r42 (And.intro T2 (HP.out.2.2.1.trans T2 fun _ _ f=>f)))))
 clear hb hps2 r42 T2 d2 hW1
 cases b with
 |false=>
  have HU:=Lib.hid (HM.out.2.1 w2 I 0 D H2.out.2.1 (.inr HM.out.1))
  go_wp2_with (go_at_call 30;fail)
  refine HU.out.mono ?_
  rintro e w3 ⟨k,o,s,t,x,ua,un,uc,rfl,hnp,hs,T3⟩
  have r43:=T3.heap H2.out.2.2.1 (by have:=HP.out.2.1;omega)
  have H3:=Lib.hid (And.intro hnp (And.intro hs T3))
  clear hnp hs T3
  go_wp2_with (refine Ux.is_store 24 rfl ?_;refine Ux.store6 rfl 24 _ _ rfl b4 _ _ _ _ _ _ rfl rfl 24 _ _ _ _ _ _ r43 (by kernel_rfl) (Ux.six_one _ _ _ _ _ _ _ _) ?_)
  intro W9 r9 t9
  go_wp2_with (fail)
  have x0:=row6 r9 0
  have x1:=row6 r9 1
  have x2:=row6 r9 2
  have x3:=row6 r9 3
  have x4:=row6 r9 4
  have x5:=row6 r9 5
  simp at x0 x1 x2 x3 x4 x5
  refine bodyPost_ret (by simp [results,Try.results30,go_sem,x0,x1,x2,x3,x4,x5];try rfl) rfl ?_
  have s2:=H2.out.2.2.2.1.size
  have T9:Ux.Touch (fun b=>b=q) w W9:=((H2.out.2.2.2.2.mono (fun _ _ f=>f.elim):Ux.Touch (fun b=>b=q) w w2).trans H3.out.2.2 fun _ _ e=>e).trans t9 fun b hb e=>by have:=HP.out.2.2.2.2.2;omega
  obtain ⟨I',E',hI',hps'⟩:=H3.out.2.1
  exact ⟨_,_,_,_,_,_,_,_,rfl,(H3.out.1.touch t9 fun g _ h e=>by have:=HP.out.2.2.2.2.1;omega).mono fun g _ h=>by have:=HP.out.2.2.2.2.1;have:=HP.out.2.2.2.2.2;omega,⟨I',E',hI',hps'.touch t9 fun b hb e=>by have:=HP.out.2.1;omega⟩,T9⟩
 |true=>
  have hlt:I<n:=H2.out.1 rfl
  have HIN:=Lib.hid (in_ q a n c I 0 D w2 H2.out.2.1)
  have HLT:=Lib.hid hlt
  clear hlt
  go_wp2_with (go_at_call 37;fail)
  refine HIN.out.mono ?_
  rintro e w3 ⟨b3,rfl,T3,hin⟩
  have r43:=T3.heap H2.out.2.2.1 (by have:=HP.out.2.1;omega)
  have H3:=Lib.hid (And.intro hin (And.intro T3 ((H2.out.2.2.2.2.mono (fun _ _ f=>f.elim):Ux.Touch (fun b=>b=q) w w2).trans T3 fun _ _ e=>e)))
  clear hin T3
  cases b3 with
  |false=>
   go_wp2_with (refine Ux.is_store 24 rfl ?_;refine Ux.store6 rfl 24 _ _ rfl b4 _ _ _ _ _ _ rfl rfl 24 _ _ _ _ _ _ r43 (by kernel_rfl) (Ux.six_one _ _ _ _ _ _ _ _) ?_)
   intro W9 r9 t9
   go_wp2_with (fail)
   have x0:=row6 r9 0
   have x1:=row6 r9 1
   have x2:=row6 r9 2
   have x3:=row6 r9 3
   have x4:=row6 r9 4
   have x5:=row6 r9 5
   simp at x0 x1 x2 x3 x4 x5
   refine bodyPost_ret (by simp [results,Try.results30,go_sem,x0,x1,x2,x3,x4,x5];try rfl) rfl ?_
   have T9:Ux.Touch (fun b=>b=q) w W9:=H3.out.2.2.trans t9 fun b hb e=>by have:=HP.out.2.2.2.2.2;omega
   obtain ⟨E',hE',hps'⟩:=inP_false H3.out.1
   exact ⟨_,_,_,_,_,_,_,_,rfl,NP.zero _ _,⟨I,E',fun h=>absurd h hE',hps'.touch t9 fun b hb e=>by have:=HP.out.2.1;omega⟩,T9⟩
  |true=>
   obtain ⟨hD,hps3⟩:=inP_true H3.out.1
   obtain ⟨hps4,T4⟩:=hps3.setI (J:=I+1) HLT.out
   obtain ⟨_,d1,_,_⟩:=hps3.cells
   have f1:=hps3.frozen 1
   have i0:(0:Int)≤I:=by omega
   have i4:(I:Int)≤4000:=by have h1:=hps3.hn;have h2:=hps3.hI;omega
   obtain ⟨W4,hW4⟩: ∃W,w3.setCell ⟨q,1,none⟩ (.int .i64 ((I:Int)+1))=W:=⟨_,rfl⟩
   have hps4:PS W4 q a n c (I+1) 0 (D+1):=by rw [←hW4];exact hps4
   have T4:Ux.Touch (fun b=>b=q) w3 W4:=by rw [←hW4];exact T4
   have HS:=Lib.hid (HM.out.2.2 (n-(I+1)) (by have:=HM.out.1;have:=HLT.out;omega) W4 (I+1) 0 (D+1) hps4 (.inr (Nat.le_refl _)))
   have r44:=T4.heap r43 (by have:=HP.out.2.1;omega)
   have H4:=Lib.hid (And.intro hD (And.intro r44 (And.intro (H3.out.2.2.trans T4 fun _ _ e=>e) (show W1.heap.size≤W4.heap.size by have h1:=H2.out.2.2.2.1.size;have h2:=H3.out.2.1.size;have h3:=T4.size;omega))))
   clear hD hps3 hps4 T4 r43 r44
   go_wp2_with (go_at_call 30;fail)
   refine HS.out.mono ?_
   rintro e w5 ⟨k,o,s,t,x,ua,un,uc,rfl,hnp,⟨I6,E6,hI6,hps6⟩,T5⟩
   have H5:=Lib.hid (And.intro hnp (And.intro hI6 (And.intro hps6 T5)))
   clear hnp hI6 hps6 T5 d1 f1 hW4 i0 i4
   obtain ⟨g9,hg9⟩: ∃X,w5.heap.size=X:=⟨_,rfl⟩
   obtain ⟨W6,hW6⟩: ∃W,w5.alloc (.cells #[.int .i64 k,.int .i64 o,.string s,.string t,.int .i64 x,.slice ua un uc] 24)=W:=⟨_,rfl⟩
   have t6:Ux.Touch (fun _=>False) w5 W6:=by rw [←hW6];exact (Ux.Touch.refl _ _).alloc _
   have rg:W6.heap[g9]? =some (.cells #[.int .i64 k,.int .i64 o,.string s,.string t,.int .i64 x,.slice ua un uc] 24 (0,0)):=by rw [←hW6,←hg9];exact heap_alloc_new w5 _
   obtain ⟨b7,hb7⟩: ∃b,W6.heap.size=b:=⟨_,rfl⟩
   obtain ⟨Z7,hZ7⟩: ∃W,W6.alloc (.cells #[.int .i64 0,.int .i64 0,.string ⟨#[]⟩,.string ⟨#[]⟩,.int .i64 0,.slice none 0 0] 24)=W:=⟨_,rfl⟩
   have rz7:Z7.heap[b7]? =some (.cells #[.int .i64 0,.int .i64 0,.string ⟨#[]⟩,.string ⟨#[]⟩,.int .i64 0,.slice none 0 0] 24 (0,0)):=by rw [←hZ7,←hb7];exact heap_alloc_new W6 _
   have tz7:Ux.Touch (fun _=>False) W6 Z7:=by rw [←hZ7];exact (Ux.Touch.refl _ _).alloc _
   go_wp2_with (refine Ux.is_store 24 rfl ?_;refine Ux.store6 rfl 24 _ _ rfl b7 _ _ _ _ _ _ rfl rfl 24 _ _ _ _ _ _ rz7 (by kernel_rfl) (Ux.six_one _ _ _ _ _ _ _ _) ?_)
   intro W7 r7 t7
   have u7:Ux.Touch (fun _=>False) W6 W7:=tz7.trans (R:=fun _=>False) t7 fun b hb e=>by omega
   clear hW6 hZ7 rz7 tz7 t7
   have hps7:=(H5.out.2.2.1.touch0 t6).touch0 u7
   have hq4:=HP.out.2.1
   have s6:=Ux.lt_of_heap rg
   have f7:q<b7∧b4<b7∧g9<b7∧q<g9∧b4<g9:=by have h0:=H5.out.2.2.1.lt;have h1:=t6.size;have h2:=Ux.lt_of_heap rg;have h3:=H4.out.2.2.2;have h4:=H5.out.2.2.2.size;have h5:=HP.out.2.2.2.2.1;omega
   obtain ⟨hps8,T8⟩:=hps7.setD (J:=D) (by have:=hps7.hD;omega)
   obtain ⟨_,_,_,d4⟩:=hps7.cells
   have f4:=hps7.frozen 4
   have dd:(((D+1:Nat):Int))-1=(D:Int):=by omega
   have d4:W7.cell? ⟨q,4,none⟩=some (.int .i64 ((D:Int)+1)):=by rw [d4];rfl
   have D0:(0:Int)≤D:=by omega
   have D24:(D:Int)≤24:=by have:=hps7.hD;omega
   have dd:((D:Int)+1)-1=D:=by omega
   obtain ⟨W8,hW8⟩: ∃W,W7.setCell ⟨q,4,none⟩ (.int .i64 (D:Int))=W:=⟨_,rfl⟩
   rw [hW8] at hps8 T8
   have r78:=T8.heap r7 (by omega)
   have r48:=T8.heap (u7.heap (t6.heap (H5.out.2.2.2.heap H4.out.2.1 (by omega)) (fun f=>f)) (fun f=>f)) (by omega)
   have rg8:=T8.heap (u7.heap rg (fun f=>f)) (by omega)
   have hnp8:NP W8 (fun g=>W4.heap.size≤g∧g<g9) (.agg #[.int .i64 k,.int .i64 o,.string s,.string t,.int .i64 x,.slice ua un uc]):=(((H5.out.1.mono (A':=fun g=>W4.heap.size≤g∧g<g9) fun g h1 h2=>⟨h2,by omega⟩).touch0 t6).touch0 u7).touch T8 fun g _ h e=>by have:=H4.out.2.2.2;have:=HP.out.2.2.2.2.1;have:=HP.out.2.1;omega
   have T08:Ux.Touch (fun b=>b=q) w W8:=(((H4.out.2.2.1.trans H5.out.2.2.2 fun _ _ e=>e).trans t6 fun _ _ f=>f.elim).trans u7 fun _ _ f=>f.elim).trans T8 fun _ _ e=>e
   have H8:=Lib.hid (And.intro r48 (And.intro rg8 (And.intro hnp8 (And.intro hps8 (And.intro T08 f7)))))
   clear hps7 s6 f7 hps8 T8 r7 r48 rg8 hnp8 T08 u7 t6 rg hb7 hg9 hq4
   have y0:=row6 r78 0
   have y1:=row6 r78 1
   have y2:=row6 r78 2
   have y3:=row6 r78 3
   have y4:=row6 r78 4
   have y5:=row6 r78 5
   simp at y0 y1 y2 y3 y4 y5
   go_wp2_with (refine Ux.is_store 24 rfl ?_;refine Ux.store6 rfl 24 _ _ rfl b4 _ _ _ _ _ _ rfl rfl 24 _ _ _ _ _ _ H8.out.1 (by kernel_rfl) (Ux.six_one _ _ _ _ _ _ _ _) ?_)
   intro W9 r9 t9
   go_wp2_with (fail)
   clear y0 y1 y2 y3 y4 y5 d4 f4 dd D0 D24 hW8
   have x0:=row6 r9 0
   have x1:=row6 r9 1
   have x2:=row6 r9 2
   have x3:=row6 r9 3
   have x4:=row6 r9 4
   have x5:=row6 r9 5
   simp at x0 x1 x2 x3 x4 x5
   refine bodyPost_ret (by simp [results,Try.results30,go_sem,x0,x1,x2,x3,x4,x5];try rfl) rfl ?_
   have T9:Ux.Touch (fun b=>b=q) w W9:=H8.out.2.2.2.2.1.trans t9 fun b hb e=>by have:=HP.out.2.2.2.2.2;omega
   have rg9:=t9.heap H8.out.2.1 (by have:=H8.out.2.2.2.2.2;omega)
   have hnp9:=(H8.out.2.2.1.touch t9 fun g _ h e=>by have:=H4.out.2.2.2;have:=HP.out.2.2.2.2.1;omega).mono (A':=fun g=>w.heap.size≤g) fun g _ h=>by have:=H4.out.2.2.2;have:=HP.out.2.2.2.2.1;have:=HP.out.2.2.2.2.2;omega
   refine ⟨_,_,_,_,_,_,_,_,rfl,?_,⟨I6,E6,fun h=>⟨rfl,by have:=(H5.out.2.1 h).2;omega⟩,H8.out.2.2.2.1.touch t9 fun b hb e=>by have:=HP.out.2.1;omega⟩,T9⟩
   exact NP.node 5 20 0 ⟨#[]⟩ ⟨#[]⟩ (by unfold i64B;omega) (by unfold i64B;omega) i64_0 (by decide) (by decide) _ 1 1 (Nat.le_refl _) (by decide) fun i hi=>by
    obtain rfl:i=0:=by omega
    exact ⟨_,six_row rg9 (by have:=H8.out.2.2.2.2.2;have:=HP.out.2.2.2.2.2;omega) 0 _ _ _ _ _ _ rfl rfl rfl rfl rfl rfl,hnp9⟩
set_option maxHeartbeats 8000000 in
set_option maxRecDepth 100000 in
theorem expr3_ (q:Nat) (a:Option Addr) (n c m:Nat) (HU0:ReadC 30 q a n c m #[.int .i64 4]) (HS0: ∀m',m'<m→ReadC 30 q a n c m' #[.int .i64 3]) (I D:Nat) (w:World) (h:PS w q a n c I 0 D) (hm:n-I≤m):
 Calls Try.prog 30 #[.pointer (some ⟨q,0,none⟩),.int .i64 3] w fun e w'=> ∃k o s t x ua un uc,e= .returned (.agg #[.int .i64 k,.int .i64 o,.string s,.string t,.int .i64 x,.slice ua un uc])∧ExpR w w' q a n c I 0 D (.agg #[.int .i64 k,.int .i64 o,.string s,.string t,.int .i64 x,.slice ua un uc]):=by
 obtain ⟨b4,hb4⟩: ∃b,w.heap.size=b:=⟨_,rfl⟩
 obtain ⟨W1,hW1⟩: ∃W,w.alloc (.cells #[.int .i64 0,.int .i64 0,.string ⟨#[]⟩,.string ⟨#[]⟩,.int .i64 0,.slice none 0 0] 24)=W:=⟨_,rfl⟩
 have t1:Ux.Touch (fun _=>False) w W1:=by rw [←hW1];exact (Ux.Touch.refl _ _).alloc _
 have r4:W1.heap[b4]? =some (.cells #[.int .i64 0,.int .i64 0,.string ⟨#[]⟩,.string ⟨#[]⟩,.int .i64 0,.slice none 0 0] 24 (0,0)):=by rw [←hW1,←hb4];exact heap_alloc_new w _
 have s1:W1.heap.size=b4+1:=by rw [←hW1,World.size_alloc,hb4]
 have hqq:=h.lt
 have h1:=h.touch0 t1
 obtain ⟨d0,d1,d2,d4⟩:=h1.cells
 have HIS:=Lib.hid (is_ q a n c I 0 D ⟨#[78,79,84]⟩ W1 h1)
 have HM:=Lib.hid (And.intro hm (And.intro HU0 HS0))
 clear HU0 HS0 hm
 have HP:=Lib.hid (And.intro h1 (And.intro (show q<b4 by omega) (And.intro t1 (And.intro r4 (And.intro s1 hb4)))))
 clear h h1 t1 hqq r4 s1
 go_enter Try.func30,Try.ntmps30
 clear d0 d1 d4
 go_wp2_with (go_at_call 36;fail)
 refine HIS.out.mono ?_
 rintro e w2 ⟨b,rfl,hb,T2⟩
 have hps2:=HP.out.1.touch0 T2
 have r42:=T2.heap HP.out.2.2.2.1 (fun f=>f)
 have H2:=Lib.hid (And.intro hb (And.intro hps2 (And.intro r42 (And.intro T2 (HP.out.2.2.1.trans T2 fun _ _ f=>f)))))
 clear hb hps2 r42 T2 d2 hW1
 cases b with
 |false=>
  have HU:=Lib.hid (HM.out.2.1 w2 I 0 D H2.out.2.1 (.inr HM.out.1))
  go_wp2_with (go_at_call 30;fail)
  refine HU.out.mono ?_
  rintro e w3 ⟨k,o,s,t,x,ua,un,uc,rfl,hnp,hs,T3⟩
  have r43:=T3.heap H2.out.2.2.1 (by have:=HP.out.2.1;omega)
  have H3:=Lib.hid (And.intro hnp (And.intro hs T3))
  clear hnp hs T3
  go_wp2_with (refine Ux.is_store 24 rfl ?_;refine Ux.store6 rfl 24 _ _ rfl b4 _ _ _ _ _ _ rfl rfl 24 _ _ _ _ _ _ r43 (by kernel_rfl) (Ux.six_one _ _ _ _ _ _ _ _) ?_)
  intro W9 r9 t9
  go_wp2_with (fail)
  have x0:=row6 r9 0
  have x1:=row6 r9 1
  have x2:=row6 r9 2
  have x3:=row6 r9 3
  have x4:=row6 r9 4
  have x5:=row6 r9 5
  simp at x0 x1 x2 x3 x4 x5
  refine bodyPost_ret (by simp [results,Try.results30,go_sem,x0,x1,x2,x3,x4,x5];try rfl) rfl ?_
  have s2:=H2.out.2.2.2.1.size
  have T9:Ux.Touch (fun b=>b=q) w W9:=((H2.out.2.2.2.2.mono (fun _ _ f=>f.elim):Ux.Touch (fun b=>b=q) w w2).trans H3.out.2.2 fun _ _ e=>e).trans t9 fun b hb e=>by have:=HP.out.2.2.2.2.2;omega
  obtain ⟨I',E',hI',hps'⟩:=H3.out.2.1
  exact ⟨_,_,_,_,_,_,_,_,rfl,(H3.out.1.touch t9 fun g _ h e=>by have:=HP.out.2.2.2.2.1;omega).mono fun g _ h=>by have:=HP.out.2.2.2.2.1;have:=HP.out.2.2.2.2.2;omega,⟨I',E',hI',hps'.touch t9 fun b hb e=>by have:=HP.out.2.1;omega⟩,T9⟩
 |true=>
  have hlt:I<n:=H2.out.1 rfl
  have HIN:=Lib.hid (in_ q a n c I 0 D w2 H2.out.2.1)
  have HLT:=Lib.hid hlt
  clear hlt
  go_wp2_with (go_at_call 37;fail)
  refine HIN.out.mono ?_
  rintro e w3 ⟨b3,rfl,T3,hin⟩
  have r43:=T3.heap H2.out.2.2.1 (by have:=HP.out.2.1;omega)
  have H3:=Lib.hid (And.intro hin (And.intro T3 ((H2.out.2.2.2.2.mono (fun _ _ f=>f.elim):Ux.Touch (fun b=>b=q) w w2).trans T3 fun _ _ e=>e)))
  clear hin T3
  cases b3 with
  |false=>
   go_wp2_with (refine Ux.is_store 24 rfl ?_;refine Ux.store6 rfl 24 _ _ rfl b4 _ _ _ _ _ _ rfl rfl 24 _ _ _ _ _ _ r43 (by kernel_rfl) (Ux.six_one _ _ _ _ _ _ _ _) ?_)
   intro W9 r9 t9
   go_wp2_with (fail)
   have x0:=row6 r9 0
   have x1:=row6 r9 1
   have x2:=row6 r9 2
   have x3:=row6 r9 3
   have x4:=row6 r9 4
   have x5:=row6 r9 5
   simp at x0 x1 x2 x3 x4 x5
   refine bodyPost_ret (by simp [results,Try.results30,go_sem,x0,x1,x2,x3,x4,x5];try rfl) rfl ?_
   have T9:Ux.Touch (fun b=>b=q) w W9:=H3.out.2.2.trans t9 fun b hb e=>by have:=HP.out.2.2.2.2.2;omega
   obtain ⟨E',hE',hps'⟩:=inP_false H3.out.1
   exact ⟨_,_,_,_,_,_,_,_,rfl,NP.zero _ _,⟨I,E',fun h=>absurd h hE',hps'.touch t9 fun b hb e=>by have:=HP.out.2.1;omega⟩,T9⟩
  |true=>
   obtain ⟨hD,hps3⟩:=inP_true H3.out.1
   obtain ⟨hps4,T4⟩:=hps3.setI (J:=I+1) HLT.out
   obtain ⟨_,d1,_,_⟩:=hps3.cells
   have f1:=hps3.frozen 1
   have i0:(0:Int)≤I:=by omega
   have i4:(I:Int)≤4000:=by have h1:=hps3.hn;have h2:=hps3.hI;omega
   obtain ⟨W4,hW4⟩: ∃W,w3.setCell ⟨q,1,none⟩ (.int .i64 ((I:Int)+1))=W:=⟨_,rfl⟩
   have hps4:PS W4 q a n c (I+1) 0 (D+1):=by rw [←hW4];exact hps4
   have T4:Ux.Touch (fun b=>b=q) w3 W4:=by rw [←hW4];exact T4
   have HS:=Lib.hid (HM.out.2.2 (n-(I+1)) (by have:=HM.out.1;have:=HLT.out;omega) W4 (I+1) 0 (D+1) hps4 (.inr (Nat.le_refl _)))
   have r44:=T4.heap r43 (by have:=HP.out.2.1;omega)
   have H4:=Lib.hid (And.intro hD (And.intro r44 (And.intro (H3.out.2.2.trans T4 fun _ _ e=>e) (show W1.heap.size≤W4.heap.size by have h1:=H2.out.2.2.2.1.size;have h2:=H3.out.2.1.size;have h3:=T4.size;omega))))
   clear hD hps3 hps4 T4 r43 r44
   go_wp2_with (go_at_call 30;fail)
   refine HS.out.mono ?_
   rintro e w5 ⟨k,o,s,t,x,ua,un,uc,rfl,hnp,⟨I6,E6,hI6,hps6⟩,T5⟩
   have H5:=Lib.hid (And.intro hnp (And.intro hI6 (And.intro hps6 T5)))
   clear hnp hI6 hps6 T5 d1 f1 hW4 i0 i4
   obtain ⟨g9,hg9⟩: ∃X,w5.heap.size=X:=⟨_,rfl⟩
   obtain ⟨W6,hW6⟩: ∃W,w5.alloc (.cells #[.int .i64 k,.int .i64 o,.string s,.string t,.int .i64 x,.slice ua un uc] 24)=W:=⟨_,rfl⟩
   have t6:Ux.Touch (fun _=>False) w5 W6:=by rw [←hW6];exact (Ux.Touch.refl _ _).alloc _
   have rg:W6.heap[g9]? =some (.cells #[.int .i64 k,.int .i64 o,.string s,.string t,.int .i64 x,.slice ua un uc] 24 (0,0)):=by rw [←hW6,←hg9];exact heap_alloc_new w5 _
   obtain ⟨b7,hb7⟩: ∃b,W6.heap.size=b:=⟨_,rfl⟩
   obtain ⟨Z7,hZ7⟩: ∃W,W6.alloc (.cells #[.int .i64 0,.int .i64 0,.string ⟨#[]⟩,.string ⟨#[]⟩,.int .i64 0,.slice none 0 0] 24)=W:=⟨_,rfl⟩
   have rz7:Z7.heap[b7]? =some (.cells #[.int .i64 0,.int .i64 0,.string ⟨#[]⟩,.string ⟨#[]⟩,.int .i64 0,.slice none 0 0] 24 (0,0)):=by rw [←hZ7,←hb7];exact heap_alloc_new W6 _
   have tz7:Ux.Touch (fun _=>False) W6 Z7:=by rw [←hZ7];exact (Ux.Touch.refl _ _).alloc _
   go_wp2_with (refine Ux.is_store 24 rfl ?_;refine Ux.store6 rfl 24 _ _ rfl b7 _ _ _ _ _ _ rfl rfl 24 _ _ _ _ _ _ rz7 (by kernel_rfl) (Ux.six_one _ _ _ _ _ _ _ _) ?_)
   intro W7 r7 t7
   have u7:Ux.Touch (fun _=>False) W6 W7:=tz7.trans (R:=fun _=>False) t7 fun b hb e=>by omega
   clear hW6 hZ7 rz7 tz7 t7
   have hps7:=(H5.out.2.2.1.touch0 t6).touch0 u7
   have hq4:=HP.out.2.1
   have s6:=Ux.lt_of_heap rg
   have f7:q<b7∧b4<b7∧g9<b7∧q<g9∧b4<g9:=by have h0:=H5.out.2.2.1.lt;have h1:=t6.size;have h2:=Ux.lt_of_heap rg;have h3:=H4.out.2.2.2;have h4:=H5.out.2.2.2.size;have h5:=HP.out.2.2.2.2.1;omega
   obtain ⟨hps8,T8⟩:=hps7.setD (J:=D) (by have:=hps7.hD;omega)
   obtain ⟨_,_,_,d4⟩:=hps7.cells
   have f4:=hps7.frozen 4
   have dd:(((D+1:Nat):Int))-1=(D:Int):=by omega
   have d4:W7.cell? ⟨q,4,none⟩=some (.int .i64 ((D:Int)+1)):=by rw [d4];rfl
   have D0:(0:Int)≤D:=by omega
   have D24:(D:Int)≤24:=by have:=hps7.hD;omega
   have dd:((D:Int)+1)-1=D:=by omega
   obtain ⟨W8,hW8⟩: ∃W,W7.setCell ⟨q,4,none⟩ (.int .i64 (D:Int))=W:=⟨_,rfl⟩
   rw [hW8] at hps8 T8
   have r78:=T8.heap r7 (by omega)
   have r48:=T8.heap (u7.heap (t6.heap (H5.out.2.2.2.heap H4.out.2.1 (by omega)) (fun f=>f)) (fun f=>f)) (by omega)
   have rg8:=T8.heap (u7.heap rg (fun f=>f)) (by omega)
   have hnp8:NP W8 (fun g=>W4.heap.size≤g∧g<g9) (.agg #[.int .i64 k,.int .i64 o,.string s,.string t,.int .i64 x,.slice ua un uc]):=(((H5.out.1.mono (A':=fun g=>W4.heap.size≤g∧g<g9) fun g h1 h2=>⟨h2,by omega⟩).touch0 t6).touch0 u7).touch T8 fun g _ h e=>by have:=H4.out.2.2.2;have:=HP.out.2.2.2.2.1;have:=HP.out.2.1;omega
   have T08:Ux.Touch (fun b=>b=q) w W8:=(((H4.out.2.2.1.trans H5.out.2.2.2 fun _ _ e=>e).trans t6 fun _ _ f=>f.elim).trans u7 fun _ _ f=>f.elim).trans T8 fun _ _ e=>e
   have H8:=Lib.hid (And.intro r48 (And.intro rg8 (And.intro hnp8 (And.intro hps8 (And.intro T08 f7)))))
   clear hps7 s6 f7 hps8 T8 r7 r48 rg8 hnp8 T08 u7 t6 rg hb7 hg9 hq4
   have y0:=row6 r78 0
   have y1:=row6 r78 1
   have y2:=row6 r78 2
   have y3:=row6 r78 3
   have y4:=row6 r78 4
   have y5:=row6 r78 5
   simp at y0 y1 y2 y3 y4 y5
   go_wp2_with (refine Ux.is_store 24 rfl ?_;refine Ux.store6 rfl 24 _ _ rfl b4 _ _ _ _ _ _ rfl rfl 24 _ _ _ _ _ _ H8.out.1 (by kernel_rfl) (Ux.six_one _ _ _ _ _ _ _ _) ?_)
   intro W9 r9 t9
   go_wp2_with (fail)
   clear y0 y1 y2 y3 y4 y5 d4 f4 dd D0 D24 hW8
   have x0:=row6 r9 0
   have x1:=row6 r9 1
   have x2:=row6 r9 2
   have x3:=row6 r9 3
   have x4:=row6 r9 4
   have x5:=row6 r9 5
   simp at x0 x1 x2 x3 x4 x5
   refine bodyPost_ret (by simp [results,Try.results30,go_sem,x0,x1,x2,x3,x4,x5];try rfl) rfl ?_
   have T9:Ux.Touch (fun b=>b=q) w W9:=H8.out.2.2.2.2.1.trans t9 fun b hb e=>by have:=HP.out.2.2.2.2.2;omega
   have rg9:=t9.heap H8.out.2.1 (by have:=H8.out.2.2.2.2.2;omega)
   have hnp9:=(H8.out.2.2.1.touch t9 fun g _ h e=>by have:=H4.out.2.2.2;have:=HP.out.2.2.2.2.1;omega).mono (A':=fun g=>w.heap.size≤g) fun g _ h=>by have:=H4.out.2.2.2;have:=HP.out.2.2.2.2.1;have:=HP.out.2.2.2.2.2;omega
   refine ⟨_,_,_,_,_,_,_,_,rfl,?_,⟨I6,E6,fun h=>⟨rfl,by have:=(H5.out.2.1 h).2;omega⟩,H8.out.2.2.2.1.touch t9 fun b hb e=>by have:=HP.out.2.1;omega⟩,T9⟩
   exact NP.node 5 21 0 ⟨#[]⟩ ⟨#[]⟩ (by unfold i64B;omega) (by unfold i64B;omega) i64_0 (by decide) (by decide) _ 1 1 (Nat.le_refl _) (by decide) fun i hi=>by
    obtain rfl:i=0:=by omega
    exact ⟨_,six_row rg9 (by have:=H8.out.2.2.2.2.2;have:=HP.out.2.2.2.2.2;omega) 0 _ _ _ _ _ _ rfl rfl rfl rfl rfl rfl,hnp9⟩
end Go.Proofs.Ytmonfaepfbpdpaa
namespace Go.Proofs.Ytmonfaepfbpdpaa
open Go.RowKit
open Ux (i64B ND NRows nodV Nod)
set_option maxHeartbeats 8000000 in
set_option maxRecDepth 100000 in
theorem exprB_ (q:Nat) (a:Option Addr) (n c m L:Nat) (hL:L<10) (hL3:L≠3) (hL4:L≠4) (HU0:ReadC 30 q a n c m #[.int .i64 ((L:Int)+1)]) (I D:Nat) (w:World) (h:PS w q a n c I 0 D) (hm:n-I≤m):
 Calls Try.prog 30 #[.pointer (some ⟨q,0,none⟩),.int .i64 (L:Int)] w fun e w'=> ∃k o s t x ua un uc,e= .returned (.agg #[.int .i64 k,.int .i64 o,.string s,.string t,.int .i64 x,.slice ua un uc])∧ExpR w w' q a n c I 0 D (.agg #[.int .i64 k,.int .i64 o,.string s,.string t,.int .i64 x,.slice ua un uc]):=by
 obtain ⟨b4,hb4⟩: ∃b,w.heap.size=b:=⟨_,rfl⟩
 obtain ⟨W1,hW1⟩: ∃W,w.alloc (.cells #[.int .i64 0,.int .i64 0,.string ⟨#[]⟩,.string ⟨#[]⟩,.int .i64 0,.slice none 0 0] 24)=W:=⟨_,rfl⟩
 have t1:Ux.Touch (fun _=>False) w W1:=by rw [←hW1];exact (Ux.Touch.refl _ _).alloc _
 have r4:W1.heap[b4]? =some (.cells #[.int .i64 0,.int .i64 0,.string ⟨#[]⟩,.string ⟨#[]⟩,.int .i64 0,.slice none 0 0] 24 (0,0)):=by rw [←hW1,←hb4];exact heap_alloc_new w _
 have s1:W1.heap.size=b4+1:=by rw [←hW1,World.size_alloc,hb4]
 have hqq:=h.lt
 have h1:=h.touch0 t1
 obtain ⟨d0,d1,d2,d4⟩:=h1.cells
 have HU1:=Lib.hid (HU0 W1 I 0 D h1 (.inr hm))
 have HM:=Lib.hid (And.intro hm (And.intro HU0 hL))
 have l3:((L:Int)==3)=false:=beq_false_of_ne (by omega)
 have l4:((L:Int)==4)=false:=beq_false_of_ne (by omega)
 have l10:((L:Int)==10)=false:=beq_false_of_ne (by omega)
 have l11:((L:Int)==11)=false:=beq_false_of_ne (by omega)
 have L0:(0:Int)≤L:=by omega
 have L1:(L:Int)<10:=by omega
 clear HU0 hm hL hL3 hL4
 have HP:=Lib.hid (And.intro h1 (And.intro (show q<b4 by omega) (And.intro t1 (And.intro r4 (And.intro s1 hb4)))))
 clear h h1 t1 hqq r4 s1
 go_enter Try.func30,Try.ntmps30
 clear d0 d1 d4
 go_wp2_with (go_at_call 30;fail)
 refine HU1.out.mono ?_
 rintro e w2 ⟨k,o,s,t,x,ua,un,uc,rfl,hnp,⟨I2,E2,hI2,hps⟩,T2⟩
 have b2:=T2.size
 clear d2 hW1 l3 l4 l10 l11
 obtain ⟨b8,hb8⟩: ∃b,w2.heap.size=b:=⟨_,rfl⟩
 obtain ⟨Z8,hZ8⟩: ∃W,w2.alloc (.cells #[.int .i64 0,.int .i64 0,.string ⟨#[]⟩,.string ⟨#[]⟩,.int .i64 0,.slice none 0 0] 24)=W:=⟨_,rfl⟩
 have rz8:Z8.heap[b8]? =some (.cells #[.int .i64 0,.int .i64 0,.string ⟨#[]⟩,.string ⟨#[]⟩,.int .i64 0,.slice none 0 0] 24 (0,0)):=by rw [←hZ8,←hb8];exact heap_alloc_new w2 _
 have tz8:Ux.Touch (fun _=>False) w2 Z8:=by rw [←hZ8];exact (Ux.Touch.refl _ _).alloc _
 go_wp2_with (refine Ux.is_store 24 rfl ?_;refine Ux.store6 rfl 24 _ _ rfl b8 _ _ _ _ _ _ rfl rfl 24 _ _ _ _ _ _ rz8 (by kernel_rfl) (Ux.six_one _ _ _ _ _ _ _ _) ?_)
 intro W8 r8 t8
 have u8:Ux.Touch (fun _=>False) w2 W8:=tz8.trans (R:=fun _=>False) t8 fun b hb e=>by omega
 clear hZ8 rz8 tz8 t8
 have hnp8:NP W8 (fun g=>b4≤g∧g≠b4∧g≠b8) (.agg #[.int .i64 k,.int .i64 o,.string s,.string t,.int .i64 x,.slice ua un uc]):=(hnp.mono (A':=fun g=>b4≤g∧g≠b4∧g≠b8) fun g h1 h2=>by have:=HP.out.2.2.2.2.1;omega).touch0 u8
 have r48:W8.heap[b4]? =_:=u8.heap (T2.heap HP.out.2.2.2.1 (by have:=HP.out.2.1;omega)) (fun f=>f)
 have HB:=Lib.hid (And.intro (show b4<b8 by have:=HP.out.2.2.2.2.1;omega) (And.intro (hps.touch0 u8) (And.intro hI2 (((HP.out.2.2.1.mono (fun _ _ f=>f.elim):Ux.Touch (fun b=>b=q) w W1).trans T2 fun _ _ e=>e).trans u8 fun _ _ f=>f.elim))))
 have HN:=Lib.hid (And.intro r8 (And.intro hnp8 r48))
 clear r8 hnp8 r48 hnp hps hI2 T2 u8 b2 hb8
 go_wp2_with (fail)
 go_loopg [] (n+1) (fun gk wr=> ∃(k o:Int) (s t:ByteArray) (x:Int) (ua:Option Addr) (un uc I3 E3:Nat),Hid ((E3=0→n+1-I3≤gk)∧PS wr q a n c I3 E3 D)∧Hid (PS wr q a n c I3 E3 D∧ExpP I 0 I3 E3∧wr.heap[b8]? =some (.cells #[.int .i64 k,.int .i64 o,.string s,.string t,.int .i64 x,.slice ua un uc] 24 (0,0))∧NP wr (fun g=>b4≤g∧g≠b4∧g≠b8) (.agg #[.int .i64 k,.int .i64 o,.string s,.string t,.int .i64 x,.slice ua un uc])∧wr.heap[b4]? =some (.cells #[.int .i64 0,.int .i64 0,.string ⟨#[]⟩,.string ⟨#[]⟩,.int .i64 0,.slice none 0 0] 24 (0,0))∧Ux.Touch (fun b=>b=q) w wr))
 case atStart=>exact ⟨k,o,s,t,x,ua,un,uc,I2,E2,Lib.hid ⟨fun _=>by omega,HB.out.2.1⟩,Lib.hid ⟨HB.out.2.1,HB.out.2.2.1,HN.out.1,HN.out.2.1,HN.out.2.2,HB.out.2.2.2⟩⟩
 case round=>
  obtain ⟨k,o,s,t,x,ua,un,uc,I3,E3,HG,HI⟩:=hrel
  obtain ⟨_,_,d2,_⟩:=HI.out.1.cells
  by_cases hE3:E3=0
  ·subst hE3
   have HOP:=Lib.hid (opOf_ q a n c I3 0 D L HM.out.2.2 wr HI.out.1)
   go_wp2_with (go_at_call 42;fail)
   refine HOP.out.mono ?_
   rintro e w5 ⟨oo,rfl,hoo,T5⟩
   have HO:=Lib.hid (And.intro hoo T5)
   clear hoo T5 d2
   by_cases ho0:oo=0
   ·subst ho0
    have T5:=HO.out.2
    have r8:=T5.heap HI.out.2.2.1 (fun f=>f)
    have HF:=Lib.hid (And.intro (HI.out.1.touch0 T5) (And.intro (HI.out.2.2.2.1.touch0 T5) (And.intro (T5.heap HI.out.2.2.2.2.1 (fun f=>f)) (HI.out.2.2.2.2.2.trans T5 fun _ _ f=>f.elim))))
    clear T5
    have y0:=row6 r8 0
    have y1:=row6 r8 1
    have y2:=row6 r8 2
    have y3:=row6 r8 3
    have y4:=row6 r8 4
    have y5:=row6 r8 5
    simp at y0 y1 y2 y3 y4 y5
    clear r8
    go_wp2_with (refine Ux.is_store 24 rfl ?_;refine Ux.store6 rfl 24 _ _ rfl b4 _ _ _ _ _ _ rfl rfl 24 _ _ _ _ _ _ HF.out.2.2.1 (by kernel_rfl) (Ux.six_one _ _ _ _ _ _ _ _) ?_)
    intro W9 r9 t9
    go_wp2_with (fail)
    clear y0 y1 y2 y3 y4 y5
    have x0:=row6 r9 0
    have x1:=row6 r9 1
    have x2:=row6 r9 2
    have x3:=row6 r9 3
    have x4:=row6 r9 4
    have x5:=row6 r9 5
    simp at x0 x1 x2 x3 x4 x5
    refine bodyPost_ret (by simp [results,Try.results30,go_sem,x0,x1,x2,x3,x4,x5];try rfl) rfl ?_
    have T9:Ux.Touch (fun b=>b=q) w W9:=HF.out.2.2.2.trans t9 fun b hb e=>by have:=HP.out.2.2.2.2.2;omega
    exact ⟨_,_,_,_,_,_,_,_,rfl,(HF.out.2.1.touch t9 fun g _ h e=>h.2.1 e).mono fun g _ h=>by have h1:=h.1;have:=HP.out.2.2.2.2.2;omega,⟨I3,0,HI.out.2.1,HF.out.1.touch t9 fun b hb e=>by have:=HP.out.2.1;omega⟩,T9⟩
   ·have on0:(oo==0)=false:=beq_false_of_ne ho0
    have hlt:I3<n:=HO.out.1.2 ho0
    have hle:I≤I3:=(HI.out.2.1 rfl).2
    have hps5:=HI.out.1.touch0 HO.out.2
    obtain ⟨hps6,T6⟩:=hps5.setI (J:=I3+1) hlt
    obtain ⟨_,d1,_,_⟩:=hps5.cells
    have f1:=hps5.frozen 1
    have i0:(0:Int)≤I3:=by omega
    have i4:(I3:Int)≤4000:=by have h1:=hps5.hn;have h2:=hps5.hI;omega
    obtain ⟨W6,hW6⟩: ∃W,w5.setCell ⟨q,1,none⟩ (.int .i64 ((I3:Int)+1))=W:=⟨_,rfl⟩
    have hps6:PS W6 q a n c (I3+1) 0 D:=by rw [←hW6];exact hps6
    have T6:Ux.Touch (fun b=>b=q) w5 W6:=by rw [←hW6];exact T6
    have HS:=Lib.hid (HM.out.2.1 W6 (I3+1) 0 D hps6 (.inr (by have:=HM.out.1;omega)))
    have T36:Ux.Touch (fun b=>b=q) wr W6:=(HO.out.2.mono (fun _ _ f=>f.elim):Ux.Touch (fun b=>b=q) wr w5).trans T6 fun _ _ e=>e
    have H6:=Lib.hid (And.intro hlt (And.intro hle (And.intro T36 HO.out.1.1)))
    clear hps5 hps6 T6 hlt hle T36 ho0
    go_wp2_with (go_at_call 30;fail)
    refine HS.out.mono ?_
    rintro e w7 ⟨k2,o2,s2,t2,x2,ua2,un2,uc2,rfl,hnp,⟨I7,E7,hI7,hps7⟩,T7⟩
    have H7:=Lib.hid (And.intro hnp (And.intro hI7 (And.intro hps7 (And.intro T7 (H6.out.2.2.1.trans T7 fun _ _ e=>e)))))
    clear hnp hI7 hps7 T7 d1 f1 hW6 i0 i4 on0
    obtain ⟨b10,hb10⟩: ∃b,w7.heap.size=b:=⟨_,rfl⟩
    obtain ⟨Z10,hZ10⟩: ∃W,w7.alloc (.cells #[.int .i64 0,.int .i64 0,.string ⟨#[]⟩,.string ⟨#[]⟩,.int .i64 0,.slice none 0 0] 24)=W:=⟨_,rfl⟩
    have rz10:Z10.heap[b10]? =some (.cells #[.int .i64 0,.int .i64 0,.string ⟨#[]⟩,.string ⟨#[]⟩,.int .i64 0,.slice none 0 0] 24 (0,0)):=by rw [←hZ10,←hb10];exact heap_alloc_new w7 _
    have tz10:Ux.Touch (fun _=>False) w7 Z10:=by rw [←hZ10];exact (Ux.Touch.refl _ _).alloc _
    go_wp2_with (refine Ux.is_store 24 rfl ?_;refine Ux.store6 rfl 24 _ _ rfl b10 _ _ _ _ _ _ rfl rfl 24 _ _ _ _ _ _ rz10 (by kernel_rfl) (Ux.six_one _ _ _ _ _ _ _ _) ?_)
    intro W10 r10 t10
    have u10:Ux.Touch (fun _=>False) w7 W10:=tz10.trans (R:=fun _=>False) t10 fun b hb e=>by omega
    clear hZ10 rz10 tz10 t10
    have T310:Ux.Touch (fun b=>b=q) wr W10:=H7.out.2.2.2.2.trans u10 fun _ _ f=>f.elim
    have hq4:=HP.out.2.1
    have hb48:=HB.out.1
    have s8:=Ux.lt_of_heap HI.out.2.2.1
    have r8:=T310.heap HI.out.2.2.1 (by omega)
    have hs6:=H6.out.2.2.1.size
    have hs7:=H7.out.2.2.2.1.size
    have hnpA:=HI.out.2.2.2.1.touch T310 fun g _ h e=>by have h1:=h.1;omega
    have hnpB:NP W10 (fun g=>b4≤g∧g≠b4∧g≠b8) (.agg #[.int .i64 k2,.int .i64 o2,.string s2,.string t2,.int .i64 x2,.slice ua2 un2 uc2]):=(H7.out.1.mono (A':=fun g=>b4≤g∧g≠b4∧g≠b8) fun g h1 h2=>by have h2:W6.heap.size≤g:=h2;omega).touch0 u10
    have r410:=T310.heap HI.out.2.2.2.2.1 (by omega)
    have s10:=Ux.lt_of_heap r10
    obtain ⟨g9,hg9⟩: ∃X,W10.heap.size=X:=⟨_,rfl⟩
    obtain ⟨W11,hW11⟩: ∃W,W10.alloc (.cells #[.int .i64 k,.int .i64 o,.string s,.string t,.int .i64 x,.slice ua un uc,.int .i64 k2,.int .i64 o2,.string s2,.string t2,.int .i64 x2,.slice ua2 un2 uc2] 24)=W:=⟨_,rfl⟩
    have t11:Ux.Touch (fun _=>False) W10 W11:=by rw [←hW11];exact (Ux.Touch.refl _ _).alloc _
    have rg:W11.heap[g9]? =some (.cells #[.int .i64 k,.int .i64 o,.string s,.string t,.int .i64 x,.slice ua un uc,.int .i64 k2,.int .i64 o2,.string s2,.string t2,.int .i64 x2,.slice ua2 un2 uc2] 24 (0,0)):=by rw [←hW11,←hg9];exact heap_alloc_new W10 _
    have r811:=t11.heap r8 (fun f=>f)
    have H11:=Lib.hid (And.intro (t11.heap r410 (fun f=>f)) (And.intro rg (And.intro (hnpA.touch0 t11) (And.intro (hnpB.touch0 t11) (And.intro ((H7.out.2.2.1.touch0 u10).touch0 t11) (And.intro (HI.out.2.2.2.2.2.trans (T310.trans t11 fun _ _ f=>f.elim) fun _ _ e=>e) (show b8<g9 by omega)))))))
    have y0:=row6 r8 0
    have y1:=row6 r8 1
    have y2:=row6 r8 2
    have y3:=row6 r8 3
    have y4:=row6 r8 4
    have y5:=row6 r8 5
    simp at y0 y1 y2 y3 y4 y5
    have z0:=row6 r10 0
    have z1:=row6 r10 1
    have z2:=row6 r10 2
    have z3:=row6 r10 3
    have z4:=row6 r10 4
    have z5:=row6 r10 5
    simp at z0 z1 z2 z3 z4 z5
    clear T310 hq4 hb48 s8 r8 hs6 hs7 hnpA hnpB r410 s10 u10 r10 hb10 t11 rg
    go_wp2_with (refine Ux.is_store 24 rfl ?_;refine Ux.store6 rfl 24 _ _ rfl b8 _ _ _ _ _ _ rfl rfl 24 _ _ _ _ _ _ r811 (by kernel_rfl) (Ux.six_one _ _ _ _ _ _ _ _) ?_)
    intro W12 r12 t12
    clear y0 y1 y2 y3 y4 y5 z0 z1 z2 z3 z4 z5 r811 hW11 hg9
    have hgk:=HG.out.1 (by simp)
    obtain ⟨g',rfl⟩: ∃g',gk=g'+1:=⟨gk-1,by have:=H6.out.1;omega⟩
    go_wp2_with (fail)
    go_roundg g'
    case measure=>omega
    case rel=>
     have hb8:=H11.out.2.2.2.2.2.2
     have hq4:=HP.out.2.1
     have hb48:=HB.out.1
     have gr:=t12.heap H11.out.2.1 (by omega)
     have nA:=H11.out.2.2.1.touch t12 fun g _ h e=>h.2.2 e
     have nB:=H11.out.2.2.2.1.touch t12 fun g _ h e=>h.2.2 e
     have hpsF:=H11.out.2.2.2.2.1.touch t12 fun b hb e=>by omega
     refine ⟨6,oo,⟨#[]⟩,⟨#[]⟩,0,some ⟨g9,0,none⟩,2,2,I7,E7,Lib.hid ⟨fun h=> ?_,hpsF⟩,Lib.hid ⟨hpsF,fun h=> ?_,r12,?_,t12.heap H11.out.1 (by omega),?_⟩⟩
     ·have:=(H7.out.2.1 h).2;have:=H6.out.1;omega
     ·exact ⟨rfl,by have:=(H7.out.2.1 h).2;have:=H6.out.2.1;omega⟩
     ·refine NP.node 6 oo 0 ⟨#[]⟩ ⟨#[]⟩ (by unfold i64B;omega) H6.out.2.2.2 i64_0 (by decide) (by decide) _ 2 2 (Nat.le_refl _) (by decide) fun i hi=> ?_
      have:i=0∨i=1:=by omega
      rcases this with rfl|rfl
      ·exact ⟨_,six_row gr (by omega) 0 _ _ _ _ _ _ rfl rfl rfl rfl rfl rfl,nA⟩
      ·exact ⟨_,six_row gr (by omega) 1 _ _ _ _ _ _ rfl rfl rfl rfl rfl rfl,nB⟩
     ·exact H11.out.2.2.2.2.2.1.trans t12 fun b hb e=>by have:=HP.out.2.2.2.2.2;omega
  ·have e0:((E3:Int)==0)=false:=beq_false_of_ne (by omega)
   have r8:=HI.out.2.2.1
   have HF:=Lib.hid (And.intro HI.out.1 (And.intro HI.out.2.2.2.1 (And.intro HI.out.2.2.2.2.1 HI.out.2.2.2.2.2)))
   clear hE3
   have y0:=row6 r8 0
   have y1:=row6 r8 1
   have y2:=row6 r8 2
   have y3:=row6 r8 3
   have y4:=row6 r8 4
   have y5:=row6 r8 5
   simp at y0 y1 y2 y3 y4 y5
   clear r8
   go_wp2_with (refine Ux.is_store 24 rfl ?_;refine Ux.store6 rfl 24 _ _ rfl b4 _ _ _ _ _ _ rfl rfl 24 _ _ _ _ _ _ HF.out.2.2.1 (by kernel_rfl) (Ux.six_one _ _ _ _ _ _ _ _) ?_)
   intro W9 r9 t9
   go_wp2_with (fail)
   clear y0 y1 y2 y3 y4 y5
   have x0:=row6 r9 0
   have x1:=row6 r9 1
   have x2:=row6 r9 2
   have x3:=row6 r9 3
   have x4:=row6 r9 4
   have x5:=row6 r9 5
   simp at x0 x1 x2 x3 x4 x5
   refine bodyPost_ret (by simp [results,Try.results30,go_sem,x0,x1,x2,x3,x4,x5];try rfl) rfl ?_
   have T9:Ux.Touch (fun b=>b=q) w W9:=HF.out.2.2.2.trans t9 fun b hb e=>by have:=HP.out.2.2.2.2.2;omega
   exact ⟨_,_,_,_,_,_,_,_,rfl,(HF.out.2.1.touch t9 fun g _ h e=>h.2.1 e).mono fun g _ h=>by have h1:=h.1;have:=HP.out.2.2.2.2.2;omega,⟨I3,E3,HI.out.2.1,HF.out.1.touch t9 fun b hb e=>by have:=HP.out.2.1;omega⟩,T9⟩
end Go.Proofs.Ytmonfaepfbpdpaa
