/- A part of the proof that the statement holds for every input that it names. No other condition. -/
import Derived.Test.YtmonfaepfbpdpaaPsBZ
set_option linter.unusedVariables false
set_option linter.unusedSimpArgs false
namespace Go.Proofs.Ytmonfaepfbpdpaa
open Go.RowKit
open Ux (i64B ND NRows nodV Nod)
def KindIs (w:World) (q:Nat) (a:Option Addr) (I:Nat) (k:Int):Prop:= ∃g o,a=some ⟨g,o,none⟩∧g<q∧w.cell? ⟨g,o+I*4,none⟩=some (.int .i64 k)
theorem KindIs.touch {w w':World} {q:Nat} {a:Option Addr} {I:Nat} {k:Int} (h:KindIs w q a I k) (T:Ux.Touch (fun b=>b=q) w w'):KindIs w' q a I k:=by
 obtain ⟨g,o,rfl,hg,c⟩:=h
 exact ⟨g,o,rfl,hg,T.cell c (Nat.ne_of_lt hg)⟩
set_option maxHeartbeats 4000000 in
theorem kindI_ (q:Nat) (a:Option Addr) (n c I E D:Nat) (w:World) (h:PS w q a n c I E D):
 Calls Try.prog 52 #[.pointer (some ⟨q,0,none⟩)] w fun e w'=> ∃k,e= .returned (.int .i64 k)∧(k≠0→I<n∧KindIs w' q a I k)∧Ux.Touch (fun _=>False) w w':=by
 obtain ⟨d0,d1,_,_⟩:=h.cells
 have n0:(n:Int)≤4000:=by have:=h.hn;omega
 have i0:(0:Int)≤I:=by omega
 have hcap:(n:Int)≤c:=by have:=h.hc;omega
 by_cases hI:I<n
 ·have i1:(I:Int)<n:=by omega
  obtain ⟨g,o,k,s,m,p,rfl,hg,b1,b2,b3,b4,c0,c1,c2,c3⟩:=h.tok I hI
  have HH:=Lib.hid (And.intro hI (show KindIs w q (some ⟨g,o,none⟩) I k from ⟨g,o,rfl,hg,c0⟩))
  clear h hI b1 b2 b3 b4 c1 c2 c3
  go_enter Try.func52,Try.ntmps52
  go_upto_region 1 with (fail)
  refine Ux.wpr (fun _ w'=>w'.cell? ⟨q,0,none⟩=some (.slice (some ⟨g,o,none⟩) n c)∧w'.cell? ⟨q,1,none⟩=some (.int .i64 (I:Int))) (.q [0,1,2,4,5,6] (.h false [3,7] (.q [8,9] (.line [])))) ?_;repeat ((with_reducible refine Ux.qg ?_);refine Ux.qu ?_)
  go_upto_region 2 with (fail)
  refine Ux.wpr (fun _ w'=>w'.cell? ⟨q,0,none⟩=some (.slice (some ⟨g,o,none⟩) n c)∧w'.cell? ⟨q,1,none⟩=some (.int .i64 (I:Int))∧w'.cell? ⟨g,o+I*4,none⟩=some (.int .i64 k)) (.q [0,1,2,4,5,6] (.h false [3,7] (.q [8,9] (.h false [10] (.line [11]))))) ?_;repeat ((with_reducible refine Ux.qg ?_);refine Ux.qu ?_)
  go_wp2_with (fail)
  go_returns
  exact ⟨k,rfl,fun _=>⟨HH.out.1,HH.out.2.touch (((Ux.Touch.refl _ _).drew).drew)⟩,((Ux.Touch.refl _ _).drew).drew⟩
 ·have i1: ¬(I:Int)<n:=by omega
  clear h hI
  go_enter Try.func52,Try.ntmps52
  go_upto_region 1 with (fail)
  refine Ux.wpr (fun _ w'=>w'.cell? ⟨q,0,none⟩=some (.slice a n c)∧w'.cell? ⟨q,1,none⟩=some (.int .i64 (I:Int))) (.q [0,1,2,4,5,6] (.h false [3,7] (.q [8,9] (.line [])))) ?_;repeat ((with_reducible refine Ux.qg ?_);refine Ux.qu ?_)
  go_wp2_with (fail)
  go_returns
  exact ⟨0,rfl,fun h=>absurd rfl h,(Ux.Touch.refl _ _).drew⟩
set_option maxHeartbeats 4000000 in
theorem name1_ (q:Nat) (a:Option Addr) (n c I D:Nat) (w:World) (h:PS w q a n c I 0 D) (hI:I<n) (hk:KindIs w q a I 1):
 Calls Try.prog 41 #[.pointer (some ⟨q,0,none⟩)] w fun e w'=> ∃s,e= .returned (.string s)∧s.size≤4000∧PS w' q a n c (I+1) 0 D∧Ux.Touch (fun b=>b=q) w w':=by
 obtain ⟨g,o,ha,hg,ck⟩:=hk
 have HK:Hid (Calls Try.prog 52 #[.pointer (some ⟨q,0,none⟩)] w fun e w'=>e= .returned (.int .i64 1)∧Ux.Touch (fun _=>False) w w'):=Lib.hid (by
  obtain ⟨d0,d1,_,_⟩:=h.cells
  have n0:(n:Int)≤4000:=by have:=h.hn;omega
  have i0:(0:Int)≤I:=by omega
  have hcap:(n:Int)≤c:=by have:=h.hc;omega
  have i1:(I:Int)<n:=by omega
  subst ha
  clear h hI
  go_enter Try.func52,Try.ntmps52
  go_upto_region 1 with (fail)
  refine Ux.wpr (fun _ w'=>w'.cell? ⟨q,0,none⟩=some (.slice (some ⟨g,o,none⟩) n c)∧w'.cell? ⟨q,1,none⟩=some (.int .i64 (I:Int))) (.q [0,1,2,4,5,6] (.h false [3,7] (.q [8,9] (.line [])))) ?_;repeat ((with_reducible refine Ux.qg ?_);refine Ux.qu ?_)
  go_upto_region 2 with (fail)
  refine Ux.wpr (fun _ w'=>w'.cell? ⟨q,0,none⟩=some (.slice (some ⟨g,o,none⟩) n c)∧w'.cell? ⟨q,1,none⟩=some (.int .i64 (I:Int))∧w'.cell? ⟨g,o+I*4,none⟩=some (.int .i64 1)) (.q [0,1,2,4,5,6] (.h false [3,7] (.q [8,9] (.h false [10] (.line [11]))))) ?_;repeat ((with_reducible refine Ux.qg ?_);refine Ux.qu ?_)
  go_wp2_with (fail)
  go_returns
  exact ⟨rfl,((Ux.Touch.refl _ _).drew).drew⟩)
 obtain ⟨d0,d1,d2,_⟩:=h.cells
 have HP:=Lib.hid h
 have n0:(n:Int)≤4000:=by have:=h.hn;omega
 have i0:(0:Int)≤I:=by omega
 have i2:(I:Int)≤n:=by have:=h.hI;omega
 have hcap:(n:Int)≤c:=by have:=h.hc;omega
 have HLT:=Lib.hid hI
 clear h ck ha hI
 go_enter Try.func41,Try.ntmps41
 go_wp2_with (go_at_call 52;fail)
 refine HK.out.mono ?_
 rintro e w1 ⟨rfl,T1⟩
 have h1:=HP.out.touch0 T1
 have HT:=Lib.hid (And.intro T1 h1)
 obtain ⟨h2,T2⟩:=h1.setI (J:=I+1) HLT.out
 have f1:=h1.frozen 1
 obtain ⟨_,e1,_,_⟩:=h1.cells
 obtain ⟨x0,x1,_,_⟩:=h2.cells
 obtain ⟨g',o',k',s',m,p,ha',hg',b1,b2,b3,b4,c0,c1,c2,c3⟩:=h2.tok I HLT.out
 subst ha'
 have i3:(I:Int)<n:=by have:=HLT.out;omega
 have HF:=Lib.hid (And.intro h2 (And.intro b4 ((HT.out.1.mono (fun _ _ f=>f.elim):Ux.Touch (fun b=>b=q) w w1).trans T2 fun _ _ e=>e)))
 have x1:(w1.setCell ⟨q,1,none⟩ (.int .i64 ((I+1:Nat):Int))).cell? ⟨q,1,none⟩=some (.int .i64 ((I:Int)+1)):=by rw [x1];rfl
 have hm:((I:Int)+1)-1=I:=by omega
 clear T1 h1 h2 T2 b1 b2 b3 b4 c0 c2 c3
 go_upto_region 5 with (fail)
 refine Ux.wpr (fun _ w'=>w'.cell? ⟨q,0,none⟩=some (.slice (some ⟨g',o',none⟩) n c)∧w'.cell? ⟨q,1,none⟩=some (.int .i64 ((I:Int)+1))∧w'.cell? ⟨g',o'+I*4+1,none⟩=some (.string s')) (.q [0,1,2,4,5,6] (.h false [3,7] (.q [8,9,10] (.h false [11] (.line [12]))))) ?_;repeat ((with_reducible refine Ux.qg ?_);refine Ux.qu ?_)
 go_wp2_with (fail)
 go_returns
 exact ⟨s',rfl,HF.out.2.1,HF.out.1.touch0 (Ux.Touch.refl _ _).drew,HF.out.2.2.drew⟩
set_option maxHeartbeats 8000000 in
set_option maxRecDepth 100000 in
theorem named_ (q:Nat) (a:Option Addr) (n c m:Nat) (HS0: ∀m',m'<m→ReadC 30 q a n c m' #[.int .i64 1]) (I D:Nat) (w:World) (h:PS w q a n c I 0 D) (hm:n-I≤m) (hI:I<n) (hk:KindIs w q a I 1):
 Calls Try.prog 55 #[.pointer (some ⟨q,0,none⟩)] w fun e w'=> ∃k o s t x ua un uc,e= .returned (.agg #[.int .i64 k,.int .i64 o,.string s,.string t,.int .i64 x,.slice ua un uc])∧ExpR w w' q a n c I 0 D (.agg #[.int .i64 k,.int .i64 o,.string s,.string t,.int .i64 x,.slice ua un uc]):=by
 obtain ⟨b4,hb4⟩: ∃b,w.heap.size=b:=⟨_,rfl⟩
 obtain ⟨W1,hW1⟩: ∃W,w.alloc (.cells #[.int .i64 0,.int .i64 0,.string ⟨#[]⟩,.string ⟨#[]⟩,.int .i64 0,.slice none 0 0] 24)=W:=⟨_,rfl⟩
 have t1:Ux.Touch (fun _=>False) w W1:=by rw [←hW1];exact (Ux.Touch.refl _ _).alloc _
 have r4:W1.heap[b4]? =some (.cells #[.int .i64 0,.int .i64 0,.string ⟨#[]⟩,.string ⟨#[]⟩,.int .i64 0,.slice none 0 0] 24 (0,0)):=by rw [←hW1,←hb4];exact heap_alloc_new w _
 have s1:W1.heap.size=b4+1:=by rw [←hW1,World.size_alloc,hb4]
 have hqq:=h.lt
 have h1:=h.touch0 t1
 obtain ⟨d0,d1,d2,d4⟩:=h1.cells
 have HNM:=Lib.hid (name1_ q a n c I D W1 h1 hI (hk.touch (t1.mono fun _ _ f=>f.elim)))
 have HM:=Lib.hid (And.intro hm (And.intro HS0 hI))
 clear HS0 hm hI hk
 have HP:=Lib.hid (And.intro h1 (And.intro (show q<b4 by omega) (And.intro t1 (And.intro r4 (And.intro s1 hb4)))))
 clear h h1 t1 hqq r4 s1
 go_enter Try.func55,Try.ntmps55
 clear d0 d1 d2 d4
 go_wp2_with (go_at_call 41;fail)
 refine HNM.out.mono ?_
 rintro e w2 ⟨sn,rfl,hsn,hps2,T2⟩
 have r42:=T2.heap HP.out.2.2.2.1 (by have:=HP.out.2.1;omega)
 have H2:=Lib.hid (And.intro hsn (And.intro hps2 (And.intro r42 ((HP.out.2.2.1.mono (fun _ _ f=>f.elim):Ux.Touch (fun b=>b=q) w W1).trans T2 fun _ _ e=>e))))
 have HS2:=Lib.hid (show W1.heap.size≤w2.heap.size from T2.size)
 have HTK:=Lib.hid (take_ q a n c (I+1) 0 D ⟨#[46]⟩ w2 hps2)
 clear hsn hps2 r42 T2 hW1
 go_wp2_with (go_at_call 40;fail)
 refine HTK.out.mono ?_
 rintro e w3 ⟨b3,rfl,htk,T3⟩
 have r43:=T3.heap H2.out.2.2.1 (by have:=HP.out.2.1;omega)
 have H3:=Lib.hid (And.intro htk (And.intro r43 (H2.out.2.2.2.trans T3 fun _ _ e=>e)))
 have HS3:=Lib.hid (Nat.le_trans HS2.out T3.size)
 clear htk r43 T3
 cases b3 with
 |true=>
  obtain ⟨_,hlt,hps3⟩:=H3.out.1.true
  have HN3:=Lib.hid (name_ q a n c (I+1+1) 0 D w3 hps3)
  clear hlt hps3
  go_wp2_with (go_at_call 41;fail)
  refine HN3.out.mono ?_
  rintro e w4 ⟨s2,I4,E4,rfl,hs2,hN4,hps4,T4⟩
  have r44:=T4.heap H3.out.2.1 (by have:=HP.out.2.1;omega)
  have H4:=Lib.hid (And.intro hs2 (And.intro hN4 (And.intro hps4 (H3.out.2.2.trans T4 fun _ _ e=>e))))
  clear hs2 hN4 hps4 T4
  go_wp2_with (refine Ux.is_store 24 rfl ?_;refine Ux.store6 rfl 24 _ _ rfl b4 _ _ _ _ _ _ rfl rfl 24 _ _ _ _ _ _ r44 (by kernel_rfl) (Ux.six_one _ _ _ _ _ _ _ _) ?_)
  intro W9 r9 t9
  go_wp2_with (fail)
  have x0:=row6 r9 0
  have x1:=row6 r9 1
  have x2:=row6 r9 2
  have x3:=row6 r9 3
  have x4:=row6 r9 4
  have x5:=row6 r9 5
  simp at x0 x1 x2 x3 x4 x5
  refine bodyPost_ret (by simp [results,Try.results55,go_sem,x0,x1,x2,x3,x4,x5];try rfl) rfl ?_
  have T9:Ux.Touch (fun b=>b=q) w W9:=(H4.out.2.2.2).trans t9 fun b hb e=>by have:=HP.out.2.2.2.2.2;omega
  exact ⟨_,_,_,_,_,_,_,_,rfl,NP.leaf _ _ 4 0 0 s2 sn (by unfold i64B;omega) i64_0 i64_0 H4.out.1 H2.out.1,⟨_,_,(fun h=>⟨rfl,by have:=H4.out.2.1.2;omega⟩),H4.out.2.2.1.touch t9 fun b hb e=>by have:=HP.out.2.1;omega⟩,T9⟩
 |false=>
  have HIS:=Lib.hid (is_ q a n c (I+1) 0 D ⟨#[40]⟩ w3 H3.out.1.false)
  go_wp2_with (go_at_call 36;fail)
  refine HIS.out.mono ?_
  rintro e w4 ⟨b4b,rfl,hb4b,T4⟩
  have r44:=T4.heap H3.out.2.1 (fun f=>f)
  have hps4:=H3.out.1.false.touch0 T4
  have H4:=Lib.hid (And.intro hb4b (And.intro hps4 (And.intro r44 (H3.out.2.2.trans T4 fun _ _ f=>f.elim))))
  have HS4:=Lib.hid (Nat.le_trans HS3.out T4.size)
  clear hb4b hps4 T4
  cases b4b with
  |false=>
   go_wp2_with (refine Ux.is_store 24 rfl ?_;refine Ux.store6 rfl 24 _ _ rfl b4 _ _ _ _ _ _ rfl rfl 24 _ _ _ _ _ _ r44 (by kernel_rfl) (Ux.six_one _ _ _ _ _ _ _ _) ?_)
   intro W9 r9 t9
   go_wp2_with (fail)
   have x0:=row6 r9 0
   have x1:=row6 r9 1
   have x2:=row6 r9 2
   have x3:=row6 r9 3
   have x4:=row6 r9 4
   have x5:=row6 r9 5
   simp at x0 x1 x2 x3 x4 x5
   refine bodyPost_ret (by simp [results,Try.results55,go_sem,x0,x1,x2,x3,x4,x5];try rfl) rfl ?_
   have T9:Ux.Touch (fun b=>b=q) w W9:=(H4.out.2.2.2).trans t9 fun b hb e=>by have:=HP.out.2.2.2.2.2;omega
   exact ⟨_,_,_,_,_,_,_,_,rfl,NP.leaf _ _ 4 0 0 sn ⟨#[]⟩ (by unfold i64B;omega) i64_0 i64_0 H2.out.1 (by decide),⟨_,_,(fun h=>⟨rfl,by omega⟩),H4.out.2.1.touch t9 fun b hb e=>by have:=HP.out.2.1;omega⟩,T9⟩
  |true=>
   have hlt:I+1<n:=H4.out.1 (by simp)
   obtain ⟨hps5,T5⟩:=H4.out.2.1.setI (J:=I) (by omega)
   obtain ⟨_,d1,_,_⟩:=H4.out.2.1.cells
   have f1:=H4.out.2.1.frozen 1
   have i0:(0:Int)≤I:=by omega
   have i4:(I:Int)≤4000:=by have h1:=H4.out.2.1.hn;omega
   have d1:w4.cell? ⟨q,1,none⟩=some (.int .i64 ((I:Int)+1)):=by rw [d1];rfl
   have e1:((I:Int)+1)-1=I:=by omega
   obtain ⟨W5,hW5⟩: ∃W,w4.setCell ⟨q,1,none⟩ (.int .i64 (I:Int))=W:=⟨_,rfl⟩
   rw [hW5] at hps5 T5
   have HIN:=Lib.hid (in_ q a n c I 0 D W5 hps5)
   have r45:=T5.heap r44 (by have:=HP.out.2.1;omega)
   have H5:=Lib.hid (And.intro hlt (And.intro r45 (H4.out.2.2.2.trans T5 fun _ _ e=>e)))
   have HS5:=Lib.hid (Nat.le_trans HS4.out T5.size)
   clear hlt hps5 T5 r44 r45
   go_wp2_with (go_at_call 37;fail)
   refine HIN.out.mono ?_
   rintro e w6 ⟨b6,rfl,T6,hin⟩
   have r46:=T6.heap H5.out.2.1 (by have:=HP.out.2.1;omega)
   have H6:=Lib.hid (And.intro hin (And.intro r46 (H5.out.2.2.trans T6 fun _ _ e=>e)))
   have HS6:=Lib.hid (Nat.le_trans HS5.out T6.size)
   clear hin T6 d1 f1 i0 i4 e1 hW5
   cases b6 with
   |false=>
    obtain ⟨E6,hE6,hps6⟩:=inP_false H6.out.1
    have HE6:=Lib.hid (And.intro hE6 hps6)
    clear hE6 hps6
    go_wp2_with (refine Ux.is_store 24 rfl ?_;refine Ux.store6 rfl 24 _ _ rfl b4 _ _ _ _ _ _ rfl rfl 24 _ _ _ _ _ _ r46 (by kernel_rfl) (Ux.six_one _ _ _ _ _ _ _ _) ?_)
    intro W9 r9 t9
    go_wp2_with (fail)
    have x0:=row6 r9 0
    have x1:=row6 r9 1
    have x2:=row6 r9 2
    have x3:=row6 r9 3
    have x4:=row6 r9 4
    have x5:=row6 r9 5
    simp at x0 x1 x2 x3 x4 x5
    refine bodyPost_ret (by simp [results,Try.results55,go_sem,x0,x1,x2,x3,x4,x5];try rfl) rfl ?_
    have T9:Ux.Touch (fun b=>b=q) w W9:=(H6.out.2.2).trans t9 fun b hb e=>by have:=HP.out.2.2.2.2.2;omega
    exact ⟨_,_,_,_,_,_,_,_,rfl,NP.zero _ _,⟨_,_,(fun h=>absurd h HE6.out.1),HE6.out.2.touch t9 fun b hb e=>by have:=HP.out.2.1;omega⟩,T9⟩
   |true=>
    obtain ⟨hD,hps6⟩:=inP_true H6.out.1
    obtain ⟨hps7,T7⟩:=hps6.setI (J:=I+2) (by have:=H5.out.1;omega)
    obtain ⟨_,d1,_,_⟩:=hps6.cells
    have f1:=hps6.frozen 1
    have i0:(0:Int)≤I:=by omega
    have i4:(I:Int)≤4000:=by have h1:=hps6.hn;have h2:=hps6.hI;omega
    obtain ⟨W7,hW7⟩: ∃W,w6.setCell ⟨q,1,none⟩ (.int .i64 ((I:Int)+2))=W:=⟨_,rfl⟩
    have hps7:PS W7 q a n c (I+2) 0 (D+1):=by rw [←hW7];exact hps7
    have T7:Ux.Touch (fun b=>b=q) w6 W7:=by rw [←hW7];exact T7
    have r47:=T7.heap r46 (by have:=HP.out.2.1;omega)
    have H7:=Lib.hid (And.intro hps7 (And.intro r47 (H6.out.2.2.trans T7 fun _ _ e=>e)))
    have HS7:=Lib.hid (Nat.le_trans HS6.out T7.size)
    clear hD hps6 hps7 T7 r46 r47
    obtain ⟨b10,hb10⟩: ∃b,W7.heap.size=b:=⟨_,rfl⟩
    obtain ⟨Z10,hZ10⟩: ∃W,W7.alloc (.cells #[.int .i64 0,.int .i64 0,.string ⟨#[]⟩,.string ⟨#[]⟩,.int .i64 0,.slice none 0 0] 24)=W:=⟨_,rfl⟩
    have rz10:Z10.heap[b10]? =some (.cells #[.int .i64 0,.int .i64 0,.string ⟨#[]⟩,.string ⟨#[]⟩,.int .i64 0,.slice none 0 0] 24 (0,0)):=by rw [←hZ10,←hb10];exact heap_alloc_new W7 _
    have tz10:Ux.Touch (fun _=>False) W7 Z10:=by rw [←hZ10];exact (Ux.Touch.refl _ _).alloc _
    go_wp2_with (refine Ux.is_store 24 rfl ?_;refine Ux.store6 rfl 24 _ _ rfl b10 _ _ _ _ _ _ rfl rfl 24 _ _ _ _ _ _ rz10 (by kernel_rfl) (Ux.six_one _ _ _ _ _ _ _ _) ?_)
    intro W10 r10 t10
    have u10:Ux.Touch (fun _=>False) W7 W10:=tz10.trans (R:=fun _=>False) t10 fun b hb e=>by omega
    clear hW7 hZ10 rz10 tz10 t10
    have hps10:=H7.out.1.touch0 u10
    have f10:q<b4∧b4<b10:=by have:=HP.out.2.1;have:=HP.out.2.2.2.2.1;have:=HS7.out;omega
    have H10:=Lib.hid (And.intro hps10 (And.intro r10 (And.intro (u10.heap H7.out.2.1 (fun f=>f)) (And.intro (H7.out.2.2.trans u10 fun _ _ f=>f.elim) f10))))
    clear hps10 u10 f10 d1 f1 i0 i4 hb10
    obtain ⟨ZS,hZS⟩: ∃b,(sn.toList== [99,111,117,110,116])=b:=⟨_,rfl⟩
    have HZS:=Lib.hid hZS
    clear hZS
    have y0:=row6 H10.out.2.1 0
    simp at y0
    have f0:=Ux.frozen_row H10.out.2.1 0
    go_upto_region 11 with (fail)
    go_cut [52] (fun s52 wx=> ∃Z,s52= .bool Z∧W10=wx)
    case first=>
     go_wp2_with (fail)
     all_goals go_meet
     all_goals exact ⟨_,rfl,rfl⟩
    obtain ⟨ZK,rfl,rfl⟩:=hcut
    go_upto_if 52 with (fail)
    go_cut [] (fun wx=> ∃kk:Int,Hid (i64B kk∧wx.heap[b10]? =some (.cells #[.int .i64 kk,.int .i64 0,.string sn,.string ⟨#[]⟩,.int .i64 0,.slice none 0 0] 24 (0,0))∧Ux.Touch (fun b=>b=b10) W10 wx))
    case first=>
     cases ZK with
     |true=>
      go_wp2_with (fail)
      go_meet
      exact ⟨14,Lib.hid ⟨by unfold i64B;omega,Ux.setCell_row H10.out.2.1 0 _,(Ux.Touch.refl (fun b=>b=b10) W10).setCell (p:=⟨b10,0,none⟩) (fun _=>rfl) _⟩⟩
     |false=>
      go_wp2_with (fail)
      go_meet
      exact ⟨13,Lib.hid ⟨by unfold i64B;omega,H10.out.2.1,Ux.Touch.refl _ _⟩⟩
    obtain ⟨kk,hcut⟩:=hcut
    obtain ⟨W11,rfl⟩: ∃W,W=wc:=⟨_,rfl⟩
    have hps11:=H10.out.1.touch hcut.out.2.2 fun b hb e=>by have:=H10.out.2.2.2.2;omega
    have H11:=Lib.hid (And.intro hcut.out.1 (And.intro hcut.out.2.1 (And.intro hps11 (And.intro (hcut.out.2.2.heap H10.out.2.2.1 (by have:=H10.out.2.2.2.2;omega)) (H10.out.2.2.2.1.trans hcut.out.2.2 fun b hb e=>by have:=H10.out.2.2.2.2;have:=HP.out.2.2.2.2.2;omega)))))
    clear hcut hps11 y0 f0
    go_upto_region 13 with (fail)
    go_cut [60] (fun s60 wx=> ∃(Z:Bool) (J:Nat),s60= .bool Z∧Hid ((J=I+2∨J=I+3)∧wx.heap[b10]? =some (.cells #[.int .i64 kk,.int .i64 0,.string sn,.string ⟨#[]⟩,.int .i64 0,.slice none 0 0] 24 (0,0))∧PS wx q a n c J 0 (D+1)∧wx.heap[b4]? =some (.cells #[.int .i64 0,.int .i64 0,.string ⟨#[]⟩,.string ⟨#[]⟩,.int .i64 0,.slice none 0 0] 24 (0,0))∧Ux.Touch (fun b=>b=q) w wx))
    case first=>
     cases ZS with
     |false=>
      have hz:(sn.toList== [99,111,117,110,116])=false:=HZS.out
      go_wp2_with (fail)
      go_meet
      exact ⟨true,I+2,rfl,Lib.hid ⟨.inl rfl,H11.out.2.1,H11.out.2.2.1,H11.out.2.2.2.1,H11.out.2.2.2.2⟩⟩
     |true=>
      have hz:(sn.toList== [99,111,117,110,116])=true:=HZS.out
      have HT2:=Lib.hid (take_ q a n c (I+2) 0 (D+1) ⟨#[42]⟩ W11 H11.out.2.2.1)
      go_wp2_with (go_at_call 40;fail)
      refine HT2.out.mono ?_
      rintro e w12 ⟨b12,rfl,ht12,T12⟩
      have f10:=H10.out.2.2.2.2
      have r12:=T12.heap H11.out.2.1 (by omega)
      have r412:=T12.heap H11.out.2.2.2.1 (by omega)
      have H12:=Lib.hid (And.intro ht12 (And.intro r12 (And.intro r412 (H11.out.2.2.2.2.trans T12 fun _ _ e=>e))))
      clear f10 r12 r412 ht12 T12
      cases b12 with
      |true=>
       go_wp2_with (fail)
       go_meet
       exact ⟨false,I+3,rfl,Lib.hid ⟨.inr rfl,H12.out.2.1,H12.out.1.true.2.2,H12.out.2.2.1,H12.out.2.2.2⟩⟩
      |false=>
       go_wp2_with (fail)
       go_meet
       exact ⟨true,I+2,rfl,Lib.hid ⟨.inl rfl,H12.out.2.1,H12.out.1.false,H12.out.2.2.1,H12.out.2.2.2⟩⟩
    obtain ⟨Z60,J,rfl,hcut⟩:=hcut
    obtain ⟨W12,rfl⟩: ∃W,W=wc:=⟨_,rfl⟩
    have HJ:=Lib.hid hcut.out.1
    have H11:=Lib.hid (And.intro H11.out.1 hcut.out.2)
    clear hcut
    go_upto_if 60 with (fail)
    go_cut [] (fun wx=> ∃(ua:Option Addr) (un uc I' E':Nat),Hid (wx.heap[b10]? =some (.cells #[.int .i64 kk,.int .i64 0,.string sn,.string ⟨#[]⟩,.int .i64 0,.slice ua un uc] 24 (0,0))∧NP wx (fun g=>b4<g∧g≠b10) (.agg #[.int .i64 kk,.int .i64 0,.string sn,.string ⟨#[]⟩,.int .i64 0,.slice ua un uc])∧PS wx q a n c I' E' (D+1)∧(E'=0→I≤I')∧wx.heap[b4]? =some (.cells #[.int .i64 0,.int .i64 0,.string ⟨#[]⟩,.string ⟨#[]⟩,.int .i64 0,.slice none 0 0] 24 (0,0))∧Ux.Touch (fun b=>b=q) w wx))
    case first=>
     cases Z60 with
     |false=>
      go_wp2_with (fail)
      go_meet
      exact ⟨none,0,0,J,0,Lib.hid ⟨H11.out.2.1,NP.leaf _ _ kk 0 0 sn ⟨#[]⟩ H11.out.1 i64_0 i64_0 H2.out.1 (by decide),H11.out.2.2.1,fun _=>by have:=HJ.out;omega,H11.out.2.2.2.1,H11.out.2.2.2.2⟩⟩
     |true=>
      have HS:=Lib.hid (HM.out.2.1 (n-J) (by have:=HM.out.1;have:=HM.out.2.2;have:=HJ.out;omega) W12 J 0 (D+1) H11.out.2.2.1 (.inr (Nat.le_refl _)))
      go_wp2_with (go_at_call 30;fail)
      refine HS.out.mono ?_
      rintro e w16 ⟨k,o,s,t,x,ua,un,uc,rfl,hnp,⟨I16,E16,hI16,hps16⟩,T16⟩
      have f10:=H10.out.2.2.2.2
      have s11:=Ux.lt_of_heap H11.out.2.1
      have s16:=T16.size
      obtain ⟨g9,hg9⟩: ∃X,w16.heap.size=X:=⟨_,rfl⟩
      obtain ⟨W17,hW17⟩: ∃W,w16.alloc (.cells #[.int .i64 k,.int .i64 o,.string s,.string t,.int .i64 x,.slice ua un uc] 24)=W:=⟨_,rfl⟩
      have t17:Ux.Touch (fun _=>False) w16 W17:=by rw [←hW17];exact (Ux.Touch.refl _ _).alloc _
      have rg:W17.heap[g9]? =some (.cells #[.int .i64 k,.int .i64 o,.string s,.string t,.int .i64 x,.slice ua un uc] 24 (0,0)):=by rw [←hW17,←hg9];exact heap_alloc_new w16 _
      have rb:=t17.heap (T16.heap H11.out.2.1 (by omega)) (fun f=>f)
      have rb4:=t17.heap (T16.heap H11.out.2.2.2.1 (by omega)) (fun f=>f)
      have z5:=row6 rb 5
      simp at z5
      have f5:=Ux.frozen_row rb 5
      have H17:=Lib.hid (And.intro rg (And.intro rb (And.intro rb4 (And.intro (hnp.touch0 t17) (And.intro (hps16.touch0 t17) (And.intro hI16 (And.intro ((H11.out.2.2.2.2.trans T16 fun _ _ e=>e).trans t17 fun _ _ f=>f.elim) (And.intro f10 (show b10<g9∧b10<W12.heap.size by omega)))))))))
      clear hnp hps16 hI16 T16 t17 rg rb rb4 f10 s11 s16
      go_wp2_with (fail)
      go_meet
      have t18:Ux.Touch (fun b=>b=b10) W17 (W17.setCell ⟨b10,5,none⟩ (.slice (some ⟨g9,0,none⟩) 1 1)):=(Ux.Touch.refl (fun b=>b=b10) W17).setCell (p:=⟨b10,5,none⟩) (fun _=>rfl) _
      have f10:=H17.out.2.2.2.2.2.2.2
      have gr:=t18.heap H17.out.1 (by omega)
      refine ⟨some ⟨g9,0,none⟩,1,1,I16,E16,Lib.hid ⟨Ux.setCell_row H17.out.2.1 5 _,?_,H17.out.2.2.2.2.1.touch t18 fun b hb e=>by omega,fun h=>by have:=(H17.out.2.2.2.2.2.1 h).2;have:=HJ.out;omega,t18.heap H17.out.2.2.1 (by omega),H17.out.2.2.2.2.2.2.1.trans t18 fun b hb e=>by have:=HP.out.2.2.2.2.2;omega⟩⟩
      exact NP.node kk 0 0 sn ⟨#[]⟩ H11.out.1 i64_0 i64_0 H2.out.1 (by decide) _ 1 1 (Nat.le_refl _) (by decide) fun i hi=>by
       obtain rfl:i=0:=by omega
       exact ⟨_,six_row gr (by omega) 0 _ _ _ _ _ _ rfl rfl rfl rfl rfl rfl,(H17.out.2.2.2.1.touch t18 fun g _ h e=>by have h:W12.heap.size≤g:=h;omega).mono fun g _ h=>by have h:W12.heap.size≤g:=h;omega⟩
    obtain ⟨ua,un,uc,I12,E12,hcut⟩:=hcut
    obtain ⟨W13,rfl⟩: ∃W,W=wc:=⟨_,rfl⟩
    have HW13:=Lib.hid (want_ q a n c I12 E12 (D+1) ⟨#[41]⟩ W13 hcut.out.2.2.1)
    go_wp2_with (go_at_call 53;fail)
    refine HW13.out.mono ?_
    rintro e w14 ⟨rfl,hwt,T14⟩
    obtain ⟨I14,E14,hI14,hE14,hps14⟩:=hwt
    have f10:=H10.out.2.2.2.2
    have r14:=T14.heap hcut.out.1 (by omega)
    have r414:=T14.heap hcut.out.2.2.2.2.1 (by omega)
    have np14:=hcut.out.2.1.touch T14 fun g _ h e=>by have h1:=h.1;omega
    have T014:=hcut.out.2.2.2.2.2.trans T14 fun _ _ e=>e
    obtain ⟨hps15,T15⟩:=hps14.setD (J:=D) (by have:=hps14.hD;omega)
    obtain ⟨_,_,_,d4⟩:=hps14.cells
    have f4:=hps14.frozen 4
    have d4:w14.cell? ⟨q,4,none⟩=some (.int .i64 ((D:Int)+1)):=by rw [d4];rfl
    have D0:(0:Int)≤D:=by omega
    have D24:(D:Int)≤24:=by have:=hps14.hD;omega
    have dd:((D:Int)+1)-1=D:=by omega
    obtain ⟨W15,hW15⟩: ∃W,w14.setCell ⟨q,4,none⟩ (.int .i64 (D:Int))=W:=⟨_,rfl⟩
    rw [hW15] at hps15 T15
    have r15:=T15.heap r14 (by omega)
    have hmono:E14=0→I≤I14:=fun h=>by
     have h1:E12=0:=Classical.byContradiction fun h2=>hE14 h2 h
     have:=hcut.out.2.2.2.1 h1
     omega
    have H15:=Lib.hid (And.intro hps15 (And.intro (T15.heap r414 (by omega)) (And.intro (np14.touch T15 fun g _ h e=>by have h1:=h.1;omega) (And.intro (T014.trans T15 fun _ _ e=>e) hmono))))
    clear hps14 hps15 T15 r14 r414 np14 T014 hI14 hE14 T14 f10 hmono hcut
    have z0:=row6 r15 0
    have z1:=row6 r15 1
    have z2:=row6 r15 2
    have z3:=row6 r15 3
    have z4:=row6 r15 4
    have z5:=row6 r15 5
    simp at z0 z1 z2 z3 z4 z5
    clear r15
    go_wp2_with (refine Ux.is_store 24 rfl ?_;refine Ux.store6 rfl 24 _ _ rfl b4 _ _ _ _ _ _ rfl rfl 24 _ _ _ _ _ _ H15.out.2.1 (by kernel_rfl) (Ux.six_one _ _ _ _ _ _ _ _) ?_)
    intro W9 r9 t9
    go_wp2_with (fail)
    clear z0 z1 z2 z3 z4 z5 d4 f4 D0 D24 dd hW15
    have x0:=row6 r9 0
    have x1:=row6 r9 1
    have x2:=row6 r9 2
    have x3:=row6 r9 3
    have x4:=row6 r9 4
    have x5:=row6 r9 5
    simp at x0 x1 x2 x3 x4 x5
    refine bodyPost_ret (by simp [results,Try.results55,go_sem,x0,x1,x2,x3,x4,x5];try rfl) rfl ?_
    have T9:Ux.Touch (fun b=>b=q) w W9:=H15.out.2.2.2.1.trans t9 fun b hb e=>by have:=HP.out.2.2.2.2.2;omega
    exact ⟨_,_,_,_,_,_,_,_,rfl,(H15.out.2.2.1.touch t9 fun g _ h e=>by have h1:=h.1;omega).mono fun g _ h=>by have h1:=h.1;have:=HP.out.2.2.2.2.2;omega,⟨I14,E14,(fun h=>⟨rfl,H15.out.2.2.2.2 h⟩),H15.out.1.touch t9 fun b hb e=>by have:=HP.out.2.1;omega⟩,T9⟩
end Go.Proofs.Ytmonfaepfbpdpaa
