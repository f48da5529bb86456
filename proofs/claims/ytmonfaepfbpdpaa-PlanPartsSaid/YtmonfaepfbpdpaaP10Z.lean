/- A part of the proof that the statement holds for every input that it names. No other condition. -/
import Derived.Test.YtmonfaepfbpdpaaP7Z
set_option linter.unusedVariables false
set_option linter.unusedSimpArgs false
namespace Go.Proofs.Ytmonfaepfbpdpaa
open Go.RowKit
open Ux (i64B ND NRows nodV Nod)
set_option maxHeartbeats 8000000 in
set_option maxRecDepth 100000 in
theorem first_ (q:Nat) (a:Option Addr) (n c m:Nat) (HS0: ∀m',m'<m→ReadC 30 q a n c m' #[.int .i64 1]) (I E D:Nat) (w:World) (h:PS w q a n c I E D) (hm:E≠0∨n-I≤m):
 Calls Try.prog 39 #[.pointer (some ⟨q,0,none⟩)] w fun e w'=> ∃k o s t x ua un uc,e= .returned (.agg #[.int .i64 k,.int .i64 o,.string s,.string t,.int .i64 x,.slice ua un uc])∧ExpR w w' q a n c I E D (.agg #[.int .i64 k,.int .i64 o,.string s,.string t,.int .i64 x,.slice ua un uc]):=by
 obtain ⟨b4,hb4⟩: ∃b,w.heap.size=b:=⟨_,rfl⟩
 obtain ⟨W1,hW1⟩: ∃W,w.alloc (.cells #[.int .i64 0,.int .i64 0,.string ⟨#[]⟩,.string ⟨#[]⟩,.int .i64 0,.slice none 0 0] 24)=W:=⟨_,rfl⟩
 have t1:Ux.Touch (fun _=>False) w W1:=by rw [←hW1];exact (Ux.Touch.refl _ _).alloc _
 have r4:W1.heap[b4]? =some (.cells #[.int .i64 0,.int .i64 0,.string ⟨#[]⟩,.string ⟨#[]⟩,.int .i64 0,.slice none 0 0] 24 (0,0)):=by rw [←hW1,←hb4];exact heap_alloc_new w _
 have G1:=Lib.hid (And.intro (h.touch0 t1) (And.intro r4 (t1.mono (fun _ _ f=>f.elim):Ux.Touch (fun b=>b=q) w W1)))
 have HP:=Lib.hid (And.intro (show q<b4 by have:=h.lt;omega) (show w.heap.size=b4 from hb4))
 obtain ⟨_,_,d2,_⟩:=G1.out.1.cells
 clear h t1 r4
 go_enter Try.func39,Try.ntmps39
 by_cases hE:E=0
 rotate_left
 ·have k0:((E:Int) !=0)=true:=by
   have:((E:Int)==0)=false:=beq_false_of_ne (by omega)
   show (!((E:Int)==0))=true
   rw [this]
   rfl
  have k9:((E:Int)==0)=false:=beq_false_of_ne (by omega)
  have HE:=Lib.hid hE
  clear hE
  go_wp2_with (refine Ux.is_store 24 rfl ?_;refine Ux.store6 rfl 24 _ _ rfl b4 _ _ _ _ _ _ rfl rfl 24 _ _ _ _ _ _ G1.out.2.1 (by kernel_rfl) (Ux.six_one _ _ _ _ _ _ _ _) ?_)
  intro W9 r9 t9
  go_wp2_with (fail)
  have x0:=row6 r9 0
  have x1:=row6 r9 1
  have x2:=row6 r9 2
  have x3:=row6 r9 3
  have x4:=row6 r9 4
  have x5:=row6 r9 5
  simp at x0 x1 x2 x3 x4 x5
  refine bodyPost_ret (by simp [results,Try.results39,go_sem,x0,x1,x2,x3,x4,x5];try rfl) rfl ?_
  have T9:Ux.Touch (fun b=>b=q) w W9:=G1.out.2.2.trans t9 fun b hb e=>by have:=HP.out.2;omega
  exact ⟨_,_,_,_,_,_,_,_,rfl,NP.zero _ _,⟨_,_,(fun h=>absurd h HE.out),G1.out.1.touch t9 fun b hb e=>by have:=HP.out.1;omega⟩,T9⟩
 subst hE
 have HM:=Lib.hid (And.intro (show n-I≤m by omega) HS0)
 clear hm HS0
 have HK:=Lib.hid (kindI_ q a n c I 0 D W1 G1.out.1)
 go_wp2_with (go_at_call 52;fail)
 refine HK.out.mono ?_
 rintro e w2 ⟨kk,rfl,hkk,TK⟩
 have G2:=Lib.hid (And.intro (G1.out.1.touch0 TK) (And.intro (TK.heap G1.out.2.1 (fun f=>f)) (G1.out.2.2.trans TK fun _ _ f=>f.elim)))
 have K2:=Lib.hid hkk
 clear hkk TK HK
 clear hW1
 by_cases hk3:kk=3
 ·subst hk3
  have hlt:I<n:=(K2.out (by decide)).1
  have HLT:=Lib.hid hlt
  obtain ⟨hpsI,TI⟩:=G2.out.1.setI (J:=I+1) hlt
  obtain ⟨_,d1,_,_⟩:=G2.out.1.cells
  have f1:=G2.out.1.frozen 1
  have j0:(0:Int)≤I:=by omega
  have j4:(I:Int)≤4000:=by have h1:=G2.out.1.hn;omega
  obtain ⟨w5,hW5⟩: ∃W,w2.setCell ⟨q,1,none⟩ (.int .i64 ((I:Int)+1))=W:=⟨_,rfl⟩
  have hpsI:PS w5 q a n c (I+1) 0 D:=by rw [←hW5];exact hpsI
  have TI:Ux.Touch (fun b=>b=q) w2 w5:=by rw [←hW5];exact TI
  have G5:=Lib.hid (And.intro hpsI (And.intro (TI.heap G2.out.2.1 (by have:=HP.out.1;omega)) (G2.out.2.2.trans TI fun _ _ e=>e)))
  clear hpsI TI
  clear hlt
  obtain ⟨g',o',k',s',m,p,ha',hg',b1,b2,b3,b5,c0,c1,c2,c3⟩:=G5.out.1.tok I HLT.out
  subst ha'
  obtain ⟨x0,x1,_,_⟩:=G5.out.1.cells
  have i3:(I:Int)<n:=by have:=HLT.out;omega
  have n0:(n:Int)≤4000:=by have:=G5.out.1.hn;omega
  have hcap:(n:Int)≤c:=by have:=G5.out.1.hc;omega
  have x1:w5.cell? ⟨q,1,none⟩=some (.int .i64 ((I:Int)+1)):=by rw [x1];rfl
  have hm:((I:Int)+1)-1=I:=by omega
  have HB:=Lib.hid (And.intro b2 b5)
  clear b1 b2 b3 b5 hg'
  go_upto_region 5 with (fail)
  clear d1 f1 j4 hW5
  obtain ⟨w6,hW6⟩: ∃W,w5.drew=W:=⟨_,rfl⟩
  have T6:Ux.Touch (fun b=>b=q) w5 w6:=by rw [←hW6];exact (Ux.Touch.refl _ _).drew
  have G6:=Lib.hid (And.intro (show PS w6 q (some ⟨g',o',none⟩) n c (I+1) 0 D by rw [←hW6];exact G5.out.1.touch0 (Ux.Touch.refl _ _).drew) (And.intro (T6.heap G5.out.2.1 (by have:=HP.out.1;omega)) (G5.out.2.2.trans T6 fun _ _ e=>e)))
  clear T6
  refine Ux.wpr (fun _ w'=>w'.cell? ⟨q,0,none⟩=some (.slice (some ⟨g',o',none⟩) n c)∧w'.cell? ⟨q,1,none⟩=some (.int .i64 ((I:Int)+1))∧w'.cell? ⟨g',o'+I*4+2,none⟩=some (.int .i64 m)) (.q [0,1,2,4,5,6] (.h false [3,7] (.q [8,9,10] (.h false [11] (.q [12] (.line [13])))))) ?_;repeat ((with_reducible refine Ux.qg ?_);refine Ux.qu ?_)
  subst hW6
  go_wp2_with (refine Ux.is_store 24 rfl ?_;refine Ux.store6 rfl 24 _ _ rfl b4 _ _ _ _ _ _ rfl rfl 24 _ _ _ _ _ _ G6.out.2.1 (by kernel_rfl) (Ux.six_one _ _ _ _ _ _ _ _) ?_)
  intro W9 r9 t9
  go_wp2_with (fail)
  have x0:=row6 r9 0
  have x1:=row6 r9 1
  have x2:=row6 r9 2
  have x3:=row6 r9 3
  have x4:=row6 r9 4
  have x5:=row6 r9 5
  simp at x0 x1 x2 x3 x4 x5
  refine bodyPost_ret (by simp [results,Try.results39,go_sem,x0,x1,x2,x3,x4,x5];try rfl) rfl ?_
  have T9:Ux.Touch (fun b=>b=q) w W9:=G6.out.2.2.trans t9 fun b hb e=>by have:=HP.out.2;omega
  exact ⟨_,_,_,_,_,_,_,_,rfl,NP.leaf _ _ 2 0 m ⟨#[]⟩ ⟨#[]⟩ (by unfold i64B;omega) i64_0 HB.out.1 (by decide) (by decide),⟨_,_,(fun h=>⟨rfl,by omega⟩),G6.out.1.touch t9 fun b hb e=>by have:=HP.out.1;omega⟩,T9⟩
 have k3:(kk==3)=false:=beq_false_of_ne hk3
 clear hk3
 have HK:=Lib.hid (kindI_ q a n c I 0 D w2 G2.out.1)
 go_wp2_with (go_at_call 52;fail)
 refine HK.out.mono ?_
 rintro e w3 ⟨k2,rfl,hkk,TK⟩
 have G3:=Lib.hid (And.intro (G2.out.1.touch0 TK) (And.intro (TK.heap G2.out.2.1 (fun f=>f)) (G2.out.2.2.trans TK fun _ _ f=>f.elim)))
 have K3:=Lib.hid hkk
 clear hkk TK HK
 by_cases hk4:k2=4
 ·subst hk4
  have hlt:I<n:=(K3.out (by decide)).1
  have HLT:=Lib.hid hlt
  obtain ⟨hpsI,TI⟩:=G3.out.1.setI (J:=I+1) hlt
  obtain ⟨_,d1,_,_⟩:=G3.out.1.cells
  have f1:=G3.out.1.frozen 1
  have j0:(0:Int)≤I:=by omega
  have j4:(I:Int)≤4000:=by have h1:=G3.out.1.hn;omega
  obtain ⟨w5,hW5⟩: ∃W,w3.setCell ⟨q,1,none⟩ (.int .i64 ((I:Int)+1))=W:=⟨_,rfl⟩
  have hpsI:PS w5 q a n c (I+1) 0 D:=by rw [←hW5];exact hpsI
  have TI:Ux.Touch (fun b=>b=q) w3 w5:=by rw [←hW5];exact TI
  have G5:=Lib.hid (And.intro hpsI (And.intro (TI.heap G3.out.2.1 (by have:=HP.out.1;omega)) (G3.out.2.2.trans TI fun _ _ e=>e)))
  clear hpsI TI
  clear hlt
  obtain ⟨g',o',k',s',m,p,ha',hg',b1,b2,b3,b5,c0,c1,c2,c3⟩:=G5.out.1.tok I HLT.out
  subst ha'
  obtain ⟨x0,x1,_,_⟩:=G5.out.1.cells
  have i3:(I:Int)<n:=by have:=HLT.out;omega
  have n0:(n:Int)≤4000:=by have:=G5.out.1.hn;omega
  have hcap:(n:Int)≤c:=by have:=G5.out.1.hc;omega
  have x1:w5.cell? ⟨q,1,none⟩=some (.int .i64 ((I:Int)+1)):=by rw [x1];rfl
  have hm:((I:Int)+1)-1=I:=by omega
  have HB:=Lib.hid (And.intro b2 b5)
  clear b1 b2 b3 b5 hg'
  go_upto_region 8 with (fail)
  clear d1 f1 j4 hW5
  obtain ⟨w6,hW6⟩: ∃W,w5.drew=W:=⟨_,rfl⟩
  have T6:Ux.Touch (fun b=>b=q) w5 w6:=by rw [←hW6];exact (Ux.Touch.refl _ _).drew
  have G6:=Lib.hid (And.intro (show PS w6 q (some ⟨g',o',none⟩) n c (I+1) 0 D by rw [←hW6];exact G5.out.1.touch0 (Ux.Touch.refl _ _).drew) (And.intro (T6.heap G5.out.2.1 (by have:=HP.out.1;omega)) (G5.out.2.2.trans T6 fun _ _ e=>e)))
  clear T6
  refine Ux.wpr (fun _ w'=>w'.cell? ⟨q,0,none⟩=some (.slice (some ⟨g',o',none⟩) n c)∧w'.cell? ⟨q,1,none⟩=some (.int .i64 ((I:Int)+1))∧w'.cell? ⟨g',o'+I*4+1,none⟩=some (.string s')) (.q [0,1,2,4,5,6] (.h false [3,7] (.q [8,9,10] (.h false [11] (.q [12] (.line [13])))))) ?_;repeat ((with_reducible refine Ux.qg ?_);refine Ux.qu ?_)
  subst hW6
  go_wp2_with (refine Ux.is_store 24 rfl ?_;refine Ux.store6 rfl 24 _ _ rfl b4 _ _ _ _ _ _ rfl rfl 24 _ _ _ _ _ _ G6.out.2.1 (by kernel_rfl) (Ux.six_one _ _ _ _ _ _ _ _) ?_)
  intro W9 r9 t9
  go_wp2_with (fail)
  have x0:=row6 r9 0
  have x1:=row6 r9 1
  have x2:=row6 r9 2
  have x3:=row6 r9 3
  have x4:=row6 r9 4
  have x5:=row6 r9 5
  simp at x0 x1 x2 x3 x4 x5
  refine bodyPost_ret (by simp [results,Try.results39,go_sem,x0,x1,x2,x3,x4,x5];try rfl) rfl ?_
  have T9:Ux.Touch (fun b=>b=q) w W9:=G6.out.2.2.trans t9 fun b hb e=>by have:=HP.out.2;omega
  exact ⟨_,_,_,_,_,_,_,_,rfl,NP.leaf _ _ 3 0 0 s' ⟨#[]⟩ (by unfold i64B;omega) i64_0 i64_0 HB.out.2 (by decide),⟨_,_,(fun h=>⟨rfl,by omega⟩),G6.out.1.touch t9 fun b hb e=>by have:=HP.out.1;omega⟩,T9⟩
 have k4:(k2==4)=false:=beq_false_of_ne hk4
 clear hk4
 have HK:=Lib.hid (kindI_ q a n c I 0 D w3 G3.out.1)
 go_wp2_with (go_at_call 52;fail)
 refine HK.out.mono ?_
 rintro e w4 ⟨k5,rfl,hkk,TK⟩
 have G4:=Lib.hid (And.intro (G3.out.1.touch0 TK) (And.intro (TK.heap G3.out.2.1 (fun f=>f)) (G3.out.2.2.trans TK fun _ _ f=>f.elim)))
 have K4:=Lib.hid hkk
 clear hkk TK HK
 by_cases hk1:k5=1
 ·subst hk1
  have HNM:=Lib.hid (named_ q a n c m HM.out.2 I D w4 G4.out.1 HM.out.1 (K4.out (by decide)).1 (K4.out (by decide)).2)
  go_wp2_with (go_at_call 55;fail)
  refine HNM.out.mono ?_
  rintro e w5 ⟨k,o,s,t,x,ua,un,uc,rfl,hnp,⟨I5,E5,hI5,hps5⟩,T5⟩
  have h4:=Ux.lt_of_heap G4.out.2.1
  have G5:=Lib.hid (And.intro hps5 (And.intro (T5.heap G4.out.2.1 (by have:=HP.out.1;omega)) (G4.out.2.2.trans T5 fun _ _ e=>e)))
  have H5:=Lib.hid (And.intro (hnp.mono (A':=fun g=>b4<g) fun g _ h=>by have h:w4.heap.size≤g:=h;omega) hI5)
  clear hnp hI5 hps5 T5 h4
  go_wp2_with (refine Ux.is_store 24 rfl ?_;refine Ux.store6 rfl 24 _ _ rfl b4 _ _ _ _ _ _ rfl rfl 24 _ _ _ _ _ _ G5.out.2.1 (by kernel_rfl) (Ux.six_one _ _ _ _ _ _ _ _) ?_)
  intro W9 r9 t9
  go_wp2_with (fail)
  have x0:=row6 r9 0
  have x1:=row6 r9 1
  have x2:=row6 r9 2
  have x3:=row6 r9 3
  have x4:=row6 r9 4
  have x5:=row6 r9 5
  simp at x0 x1 x2 x3 x4 x5
  refine bodyPost_ret (by simp [results,Try.results39,go_sem,x0,x1,x2,x3,x4,x5];try rfl) rfl ?_
  have T9:Ux.Touch (fun b=>b=q) w W9:=G5.out.2.2.trans t9 fun b hb e=>by have:=HP.out.2;omega
  exact ⟨_,_,_,_,_,_,_,_,rfl,(H5.out.1.touch t9 fun g _ h e=>by have h:b4<g:=h;omega).mono fun g _ h=>by have h:b4<g:=h;have:=HP.out.2;show w.heap.size≤g;omega,⟨_,_,H5.out.2,G5.out.1.touch t9 fun b hb e=>by have:=HP.out.1;omega⟩,T9⟩
 have k1:(k5==1)=false:=beq_false_of_ne hk1
 clear hk1
 have HT:=Lib.hid (take_ q a n c I 0 D ⟨#[78,85,76,76]⟩ w4 G4.out.1)
 go_wp2_with (go_at_call 40;fail)
 refine HT.out.mono ?_
 rintro e w5 ⟨bt,rfl,ht,TT⟩
 have R5:=Lib.hid (And.intro ht (And.intro (TT.heap G4.out.2.1 (by have:=HP.out.1;omega)) (G4.out.2.2.trans TT fun _ _ e=>e)))
 clear ht TT HT
 cases bt with
 |true=>
  have G5:=Lib.hid (And.intro R5.out.1.true.2.2 R5.out.2)
  go_wp2_with (refine Ux.is_store 24 rfl ?_;refine Ux.store6 rfl 24 _ _ rfl b4 _ _ _ _ _ _ rfl rfl 24 _ _ _ _ _ _ G5.out.2.1 (by kernel_rfl) (Ux.six_one _ _ _ _ _ _ _ _) ?_)
  intro W9 r9 t9
  go_wp2_with (fail)
  have x0:=row6 r9 0
  have x1:=row6 r9 1
  have x2:=row6 r9 2
  have x3:=row6 r9 3
  have x4:=row6 r9 4
  have x5:=row6 r9 5
  simp at x0 x1 x2 x3 x4 x5
  refine bodyPost_ret (by simp [results,Try.results39,go_sem,x0,x1,x2,x3,x4,x5];try rfl) rfl ?_
  have T9:Ux.Touch (fun b=>b=q) w W9:=G5.out.2.2.trans t9 fun b hb e=>by have:=HP.out.2;omega
  exact ⟨_,_,_,_,_,_,_,_,rfl,NP.zero _ _,⟨_,_,(fun h=>⟨rfl,by omega⟩),G5.out.1.touch t9 fun b hb e=>by have:=HP.out.1;omega⟩,T9⟩
 |false=>
  have G5:=Lib.hid (And.intro R5.out.1.false R5.out.2)
  have HT:=Lib.hid (take_ q a n c I 0 D ⟨#[84,82,85,69]⟩ w5 G5.out.1)
  go_wp2_with (go_at_call 40;fail)
  refine HT.out.mono ?_
  rintro e w6 ⟨bt,rfl,ht,TT⟩
  have R6:=Lib.hid (And.intro ht (And.intro (TT.heap G5.out.2.1 (by have:=HP.out.1;omega)) (G5.out.2.2.trans TT fun _ _ e=>e)))
  clear ht TT HT
  cases bt with
  |true=>
   have G6:=Lib.hid (And.intro R6.out.1.true.2.2 R6.out.2)
   go_wp2_with (refine Ux.is_store 24 rfl ?_;refine Ux.store6 rfl 24 _ _ rfl b4 _ _ _ _ _ _ rfl rfl 24 _ _ _ _ _ _ G6.out.2.1 (by kernel_rfl) (Ux.six_one _ _ _ _ _ _ _ _) ?_)
   intro W9 r9 t9
   go_wp2_with (fail)
   have x0:=row6 r9 0
   have x1:=row6 r9 1
   have x2:=row6 r9 2
   have x3:=row6 r9 3
   have x4:=row6 r9 4
   have x5:=row6 r9 5
   simp at x0 x1 x2 x3 x4 x5
   refine bodyPost_ret (by simp [results,Try.results39,go_sem,x0,x1,x2,x3,x4,x5];try rfl) rfl ?_
   have T9:Ux.Touch (fun b=>b=q) w W9:=G6.out.2.2.trans t9 fun b hb e=>by have:=HP.out.2;omega
   exact ⟨_,_,_,_,_,_,_,_,rfl,NP.leaf _ _ 1 0 1 ⟨#[]⟩ ⟨#[]⟩ (by unfold i64B;omega) i64_0 (by unfold i64B;omega) (by decide) (by decide),⟨_,_,(fun h=>⟨rfl,by omega⟩),G6.out.1.touch t9 fun b hb e=>by have:=HP.out.1;omega⟩,T9⟩
  |false=>
   have G6:=Lib.hid (And.intro R6.out.1.false R6.out.2)
   have HT:=Lib.hid (take_ q a n c I 0 D ⟨#[70,65,76,83,69]⟩ w6 G6.out.1)
   go_wp2_with (go_at_call 40;fail)
   refine HT.out.mono ?_
   rintro e w7 ⟨bt,rfl,ht,TT⟩
   have R7:=Lib.hid (And.intro ht (And.intro (TT.heap G6.out.2.1 (by have:=HP.out.1;omega)) (G6.out.2.2.trans TT fun _ _ e=>e)))
   clear ht TT HT
   cases bt with
   |true=>
    have G7:=Lib.hid (And.intro R7.out.1.true.2.2 R7.out.2)
    go_wp2_with (refine Ux.is_store 24 rfl ?_;refine Ux.store6 rfl 24 _ _ rfl b4 _ _ _ _ _ _ rfl rfl 24 _ _ _ _ _ _ G7.out.2.1 (by kernel_rfl) (Ux.six_one _ _ _ _ _ _ _ _) ?_)
    intro W9 r9 t9
    go_wp2_with (fail)
    have x0:=row6 r9 0
    have x1:=row6 r9 1
    have x2:=row6 r9 2
    have x3:=row6 r9 3
    have x4:=row6 r9 4
    have x5:=row6 r9 5
    simp at x0 x1 x2 x3 x4 x5
    refine bodyPost_ret (by simp [results,Try.results39,go_sem,x0,x1,x2,x3,x4,x5];try rfl) rfl ?_
    have T9:Ux.Touch (fun b=>b=q) w W9:=G7.out.2.2.trans t9 fun b hb e=>by have:=HP.out.2;omega
    exact ⟨_,_,_,_,_,_,_,_,rfl,NP.leaf _ _ 1 0 0 ⟨#[]⟩ ⟨#[]⟩ (by unfold i64B;omega) i64_0 i64_0 (by decide) (by decide),⟨_,_,(fun h=>⟨rfl,by omega⟩),G7.out.1.touch t9 fun b hb e=>by have:=HP.out.1;omega⟩,T9⟩
   |false=>
    have G7:=Lib.hid (And.intro R7.out.1.false R7.out.2)
    have HI:=Lib.hid (is_ q a n c I 0 D ⟨#[40]⟩ w7 G7.out.1)
    go_wp2_with (go_at_call 36;fail)
    refine HI.out.mono ?_
    rintro e w8 ⟨b8,rfl,hbb,TB⟩
    have G8:=Lib.hid (And.intro (G7.out.1.touch0 TB) (And.intro (TB.heap G7.out.2.1 (fun f=>f)) (G7.out.2.2.trans TB fun _ _ f=>f.elim)))
    have B8:=Lib.hid hbb
    clear hbb TB HI
    cases b8 with
    |true=>
     have HLT:=Lib.hid (B8.out (by simp):I<n)
     have HIN:=Lib.hid (in_ q a n c I 0 D w8 G8.out.1)
     go_wp2_with (go_at_call 37;fail)
     refine HIN.out.mono ?_
     rintro e w9 ⟨bi,rfl,TI,hin⟩
     have RI:=Lib.hid (And.intro hin (And.intro (TI.heap G8.out.2.1 (by have:=HP.out.1;omega)) (G8.out.2.2.trans TI fun _ _ e=>e)))
     clear hin TI HIN
     cases bi with
     |false=>
      obtain ⟨E',hE',hps'⟩:=inP_false RI.out.1
      have G9:=Lib.hid (And.intro hps' RI.out.2)
      have HE:=Lib.hid hE'
      clear hE' hps'
      go_wp2_with (refine Ux.is_store 24 rfl ?_;refine Ux.store6 rfl 24 _ _ rfl b4 _ _ _ _ _ _ rfl rfl 24 _ _ _ _ _ _ G9.out.2.1 (by kernel_rfl) (Ux.six_one _ _ _ _ _ _ _ _) ?_)
      intro W9 r9 t9
      go_wp2_with (fail)
      have x0:=row6 r9 0
      have x1:=row6 r9 1
      have x2:=row6 r9 2
      have x3:=row6 r9 3
      have x4:=row6 r9 4
      have x5:=row6 r9 5
      simp at x0 x1 x2 x3 x4 x5
      refine bodyPost_ret (by simp [results,Try.results39,go_sem,x0,x1,x2,x3,x4,x5];try rfl) rfl ?_
      have T9:Ux.Touch (fun b=>b=q) w W9:=G9.out.2.2.trans t9 fun b hb e=>by have:=HP.out.2;omega
      exact ⟨_,_,_,_,_,_,_,_,rfl,NP.zero _ _,⟨_,_,(fun h=>absurd h HE.out),G9.out.1.touch t9 fun b hb e=>by have:=HP.out.1;omega⟩,T9⟩
     |true=>
      obtain ⟨hD,hps'⟩:=inP_true RI.out.1
      have G9:=Lib.hid (And.intro hps' RI.out.2)
      have HD:=Lib.hid hD
      have hlt:=HLT.out
      clear hD hps'
      obtain ⟨hpsI,TI⟩:=G9.out.1.setI (J:=I+1) hlt
      obtain ⟨_,d1,_,_⟩:=G9.out.1.cells
      have f1:=G9.out.1.frozen 1
      have j0:(0:Int)≤I:=by omega
      have j4:(I:Int)≤4000:=by have h1:=G9.out.1.hn;omega
      obtain ⟨w10,hW10⟩: ∃W,w9.setCell ⟨q,1,none⟩ (.int .i64 ((I:Int)+1))=W:=⟨_,rfl⟩
      have hpsI:PS w10 q a n c (I+1) 0 (D+1):=by rw [←hW10];exact hpsI
      have TI:Ux.Touch (fun b=>b=q) w9 w10:=by rw [←hW10];exact TI
      have G10:=Lib.hid (And.intro hpsI (And.intro (TI.heap G9.out.2.1 (by have:=HP.out.1;omega)) (G9.out.2.2.trans TI fun _ _ e=>e)))
      clear hpsI TI
      clear hlt
      have HS:=Lib.hid (HM.out.2 (n-(I+1)) (by have:=HM.out.1;have:=HLT.out;omega) w10 (I+1) 0 (D+1) G10.out.1 (.inr (Nat.le_refl _)))
      go_wp2_with (go_at_call 30;fail)
      refine HS.out.mono ?_
      rintro e w11 ⟨k,o,s,t,x,ua,un,uc,rfl,hnp,⟨I11,E11,hIE,hpsE⟩,TE⟩
      have h4:=Ux.lt_of_heap G10.out.2.1
      have h5:=TE.size
      have G11:=Lib.hid (And.intro hpsE (And.intro (TE.heap G10.out.2.1 (by have:=HP.out.1;omega)) (G10.out.2.2.trans TE fun _ _ e=>e)))
      have H11:=Lib.hid (And.intro (hnp.mono (A':=fun g=>b4<g) fun g _ h=>by have h:w10.heap.size≤g:=h;omega) (And.intro hIE (show b4<w11.heap.size by omega)))
      clear hnp hIE hpsE TE h4 h5 HS
      clear d1 f1 j0 j4 hW10
      obtain ⟨b12,hb12⟩: ∃b,w11.heap.size=b:=⟨_,rfl⟩
      obtain ⟨Z12,hZ12⟩: ∃W,w11.alloc (.cells #[.int .i64 0,.int .i64 0,.string ⟨#[]⟩,.string ⟨#[]⟩,.int .i64 0,.slice none 0 0] 24)=W:=⟨_,rfl⟩
      have rz12:Z12.heap[b12]? =some (.cells #[.int .i64 0,.int .i64 0,.string ⟨#[]⟩,.string ⟨#[]⟩,.int .i64 0,.slice none 0 0] 24 (0,0)):=by rw [←hZ12,←hb12];exact heap_alloc_new w11 _
      have tz12:Ux.Touch (fun _=>False) w11 Z12:=by rw [←hZ12];exact (Ux.Touch.refl _ _).alloc _
      go_wp2_with (refine Ux.is_store 24 rfl ?_;refine Ux.store6 rfl 24 _ _ rfl b12 _ _ _ _ _ _ rfl rfl 24 _ _ _ _ _ _ rz12 (by kernel_rfl) (Ux.six_one _ _ _ _ _ _ _ _) ?_)
      intro W12 r12 t12
      have u12:Ux.Touch (fun _=>False) w11 W12:=tz12.trans (R:=fun _=>False) t12 fun b hb e=>by omega
      clear hZ12 rz12 tz12 t12
      have hbn:b4<b12:=by have:=H11.out.2.2;omega
      have G12:=Lib.hid (And.intro (G11.out.1.touch0 u12) (And.intro (u12.heap G11.out.2.1 (fun f=>f)) (G11.out.2.2.trans u12 fun _ _ f=>f.elim)))
      have V12:=Lib.hid (And.intro r12 (And.intro (H11.out.1.touch0 u12) hbn))
      clear r12 u12 hbn hb12
      have HW:=Lib.hid (want_ q a n c I11 E11 (D+1) ⟨#[41]⟩ W12 G12.out.1)
      go_wp2_with (go_at_call 53;fail)
      refine HW.out.mono ?_
      rintro e w13 ⟨rfl,⟨I13,E13,hI',hE',hps'⟩,TW⟩
      have G13:=Lib.hid (And.intro hps' (And.intro (TW.heap G12.out.2.1 (by have:=HP.out.1;omega)) (G12.out.2.2.trans TW fun _ _ e=>e)))
      have M13:=Lib.hid (And.intro hI' hE')
      have V13:=Lib.hid (And.intro (TW.heap V12.out.1 (by have:=HP.out.1;have:=V12.out.2.2;omega)) (And.intro (V12.out.2.1.touch TW fun g _ h e=>by have h:b4<g:=h;have:=HP.out.1;omega) V12.out.2.2))
      clear hI' hE' hps' TW HW
      obtain ⟨hpsD,TD⟩:=G13.out.1.setD (J:=D) (by have:=G13.out.1.hD;omega)
      obtain ⟨_,_,_,d4⟩:=G13.out.1.cells
      have f4:=G13.out.1.frozen 4
      have d4:w13.cell? ⟨q,4,none⟩=some (.int .i64 ((D:Int)+1)):=by rw [d4];rfl
      have D0:(0:Int)≤D:=by omega
      have D24:(D:Int)≤24:=by have:=G13.out.1.hD;omega
      have dd:((D:Int)+1)-1=D:=by omega
      obtain ⟨w14,hW14⟩: ∃W,w13.setCell ⟨q,4,none⟩ (.int .i64 (D:Int))=W:=⟨_,rfl⟩
      rw [hW14] at hpsD TD
      have G14:=Lib.hid (And.intro hpsD (And.intro (TD.heap G13.out.2.1 (by have:=HP.out.1;omega)) (G13.out.2.2.trans TD fun _ _ e=>e)))
      have V14:=Lib.hid (And.intro (TD.heap V13.out.1 (by have:=HP.out.1;have:=V13.out.2.2;omega)) (And.intro (V13.out.2.1.touch TD fun g _ h e=>by have h:b4<g:=h;have:=HP.out.1;omega) V13.out.2.2))
      clear hpsD TD
      have z0:=row6 V14.out.1 0
      have z1:=row6 V14.out.1 1
      have z2:=row6 V14.out.1 2
      have z3:=row6 V14.out.1 3
      have z4:=row6 V14.out.1 4
      have z5:=row6 V14.out.1 5
      simp at z0 z1 z2 z3 z4 z5
      have HMO:=Lib.hid (fun h=>by have h11:E11=0:=Classical.byContradiction fun h2=>M13.out.2 h2 h;have h1:=(H11.out.2.1 h11).2;have h2:=M13.out.1;exact ⟨rfl,by omega⟩:ExpP I 0 I13 E13)
      go_wp2_with (refine Ux.is_store 24 rfl ?_;refine Ux.store6 rfl 24 _ _ rfl b4 _ _ _ _ _ _ rfl rfl 24 _ _ _ _ _ _ G14.out.2.1 (by kernel_rfl) (Ux.six_one _ _ _ _ _ _ _ _) ?_)
      intro W9 r9 t9
      go_wp2_with (fail)
      have x0:=row6 r9 0
      have x1:=row6 r9 1
      have x2:=row6 r9 2
      have x3:=row6 r9 3
      have x4:=row6 r9 4
      have x5:=row6 r9 5
      simp at x0 x1 x2 x3 x4 x5
      refine bodyPost_ret (by simp [results,Try.results39,go_sem,x0,x1,x2,x3,x4,x5];try rfl) rfl ?_
      have T9:Ux.Touch (fun b=>b=q) w W9:=G14.out.2.2.trans t9 fun b hb e=>by have:=HP.out.2;omega
      exact ⟨_,_,_,_,_,_,_,_,rfl,(V14.out.2.1.touch t9 fun g _ h e=>by have h:b4<g:=h;omega).mono fun g _ h=>by have h:b4<g:=h;have:=HP.out.2;show w.heap.size≤g;omega,⟨_,_,(fun h=>⟨rfl,(HMO.out h).2⟩),G14.out.1.touch t9 fun b hb e=>by have:=HP.out.1;omega⟩,T9⟩
    |false=>
     have HI:=Lib.hid (is_ q a n c I 0 D ⟨#[67,65,83,84]⟩ w8 G8.out.1)
     go_wp2_with (go_at_call 36;fail)
     refine HI.out.mono ?_
     rintro e w9 ⟨b9,rfl,hbb,TB⟩
     have G9:=Lib.hid (And.intro (G8.out.1.touch0 TB) (And.intro (TB.heap G8.out.2.1 (fun f=>f)) (G8.out.2.2.trans TB fun _ _ f=>f.elim)))
     have B9:=Lib.hid hbb
     clear hbb TB HI
     cases b9 with
     |true=>
      have HLT:=Lib.hid (B9.out (by simp):I<n)
      have HIN:=Lib.hid (in_ q a n c I 0 D w9 G9.out.1)
      go_wp2_with (go_at_call 37;fail)
      refine HIN.out.mono ?_
      rintro e w10 ⟨bi,rfl,TI,hin⟩
      have RI:=Lib.hid (And.intro hin (And.intro (TI.heap G9.out.2.1 (by have:=HP.out.1;omega)) (G9.out.2.2.trans TI fun _ _ e=>e)))
      clear hin TI HIN
      cases bi with
      |false=>
       obtain ⟨E',hE',hps'⟩:=inP_false RI.out.1
       have G10:=Lib.hid (And.intro hps' RI.out.2)
       have HE:=Lib.hid hE'
       clear hE' hps'
       go_wp2_with (refine Ux.is_store 24 rfl ?_;refine Ux.store6 rfl 24 _ _ rfl b4 _ _ _ _ _ _ rfl rfl 24 _ _ _ _ _ _ G10.out.2.1 (by kernel_rfl) (Ux.six_one _ _ _ _ _ _ _ _) ?_)
       intro W9 r9 t9
       go_wp2_with (fail)
       have x0:=row6 r9 0
       have x1:=row6 r9 1
       have x2:=row6 r9 2
       have x3:=row6 r9 3
       have x4:=row6 r9 4
       have x5:=row6 r9 5
       simp at x0 x1 x2 x3 x4 x5
       refine bodyPost_ret (by simp [results,Try.results39,go_sem,x0,x1,x2,x3,x4,x5];try rfl) rfl ?_
       have T9:Ux.Touch (fun b=>b=q) w W9:=G10.out.2.2.trans t9 fun b hb e=>by have:=HP.out.2;omega
       exact ⟨_,_,_,_,_,_,_,_,rfl,NP.zero _ _,⟨_,_,(fun h=>absurd h HE.out),G10.out.1.touch t9 fun b hb e=>by have:=HP.out.1;omega⟩,T9⟩
      |true=>
       obtain ⟨hD,hps'⟩:=inP_true RI.out.1
       have G10:=Lib.hid (And.intro hps' RI.out.2)
       have HD:=Lib.hid hD
       have hlt:=HLT.out
       clear hD hps'
       obtain ⟨hpsI,TI⟩:=G10.out.1.setI (J:=I+1) hlt
       obtain ⟨_,d1,_,_⟩:=G10.out.1.cells
       have f1:=G10.out.1.frozen 1
       have j0:(0:Int)≤I:=by omega
       have j4:(I:Int)≤4000:=by have h1:=G10.out.1.hn;omega
       obtain ⟨w11,hW11⟩: ∃W,w10.setCell ⟨q,1,none⟩ (.int .i64 ((I:Int)+1))=W:=⟨_,rfl⟩
       have hpsI:PS w11 q a n c (I+1) 0 (D+1):=by rw [←hW11];exact hpsI
       have TI:Ux.Touch (fun b=>b=q) w10 w11:=by rw [←hW11];exact TI
       have G11:=Lib.hid (And.intro hpsI (And.intro (TI.heap G10.out.2.1 (by have:=HP.out.1;omega)) (G10.out.2.2.trans TI fun _ _ e=>e)))
       clear hpsI TI
       clear hlt
       have HW:=Lib.hid (want_ q a n c (I+1) 0 (D+1) ⟨#[40]⟩ w11 G11.out.1)
       go_wp2_with (go_at_call 53;fail)
       refine HW.out.mono ?_
       rintro e w12 ⟨rfl,⟨I12,E12,hI',hE',hps'⟩,TW⟩
       have G12:=Lib.hid (And.intro hps' (And.intro (TW.heap G11.out.2.1 (by have:=HP.out.1;omega)) (G11.out.2.2.trans TW fun _ _ e=>e)))
       have M12:=Lib.hid (And.intro hI' hE')
       clear hI' hE' hps' TW HW
       clear d1 f1 j0 j4 hW11
       have HS:=Lib.hid (HM.out.2 (n-(I+1)) (by have:=HM.out.1;have:=HLT.out;omega) w12 I12 E12 (D+1) G12.out.1 (by by_cases h:E12=0;exact .inr (by have:=M12.out.1;omega);exact .inl h))
       go_wp2_with (go_at_call 30;fail)
       refine HS.out.mono ?_
       rintro e w13 ⟨k,o,s,t,x,ua,un,uc,rfl,hnp,⟨I13,E13,hIE,hpsE⟩,TE⟩
       have h4:=Ux.lt_of_heap G12.out.2.1
       have h5:=TE.size
       have G13:=Lib.hid (And.intro hpsE (And.intro (TE.heap G12.out.2.1 (by have:=HP.out.1;omega)) (G12.out.2.2.trans TE fun _ _ e=>e)))
       have H13:=Lib.hid (And.intro (hnp.mono (A':=fun g=>b4<g) fun g _ h=>by have h:w12.heap.size≤g:=h;omega) (And.intro hIE (show b4<w13.heap.size by omega)))
       clear hnp hIE hpsE TE h4 h5 HS
       obtain ⟨b14,hb14⟩: ∃b,w13.heap.size=b:=⟨_,rfl⟩
       obtain ⟨Z14,hZ14⟩: ∃W,w13.alloc (.cells #[.int .i64 0,.int .i64 0,.string ⟨#[]⟩,.string ⟨#[]⟩,.int .i64 0,.slice none 0 0] 24)=W:=⟨_,rfl⟩
       have rz14:Z14.heap[b14]? =some (.cells #[.int .i64 0,.int .i64 0,.string ⟨#[]⟩,.string ⟨#[]⟩,.int .i64 0,.slice none 0 0] 24 (0,0)):=by rw [←hZ14,←hb14];exact heap_alloc_new w13 _
       have tz14:Ux.Touch (fun _=>False) w13 Z14:=by rw [←hZ14];exact (Ux.Touch.refl _ _).alloc _
       go_wp2_with (refine Ux.is_store 24 rfl ?_;refine Ux.store6 rfl 24 _ _ rfl b14 _ _ _ _ _ _ rfl rfl 24 _ _ _ _ _ _ rz14 (by kernel_rfl) (Ux.six_one _ _ _ _ _ _ _ _) ?_)
       intro W14 r14 t14
       have u14:Ux.Touch (fun _=>False) w13 W14:=tz14.trans (R:=fun _=>False) t14 fun b hb e=>by omega
       clear hZ14 rz14 tz14 t14
       have hbn:b4<b14:=by have:=H13.out.2.2;omega
       have G14:=Lib.hid (And.intro (G13.out.1.touch0 u14) (And.intro (u14.heap G13.out.2.1 (fun f=>f)) (G13.out.2.2.trans u14 fun _ _ f=>f.elim)))
       have V14:=Lib.hid (And.intro r14 (And.intro (H13.out.1.touch0 u14) hbn))
       clear r14 u14 hbn hb14
       have HW:=Lib.hid (want_ q a n c I13 E13 (D+1) ⟨#[65,83]⟩ W14 G14.out.1)
       go_wp2_with (go_at_call 53;fail)
       refine HW.out.mono ?_
       rintro e w15 ⟨rfl,⟨I15,E15,hI',hE',hps'⟩,TW⟩
       have G15:=Lib.hid (And.intro hps' (And.intro (TW.heap G14.out.2.1 (by have:=HP.out.1;omega)) (G14.out.2.2.trans TW fun _ _ e=>e)))
       have M15:=Lib.hid (And.intro hI' hE')
       have V15:=Lib.hid (And.intro (TW.heap V14.out.1 (by have:=HP.out.1;have:=V14.out.2.2;omega)) (And.intro (V14.out.2.1.touch TW fun g _ h e=>by have h:b4<g:=h;have:=HP.out.1;omega) V14.out.2.2))
       clear hI' hE' hps' TW HW
       have HY:=Lib.hid (typed_ q a n c I15 E15 (D+1) w15 G15.out.1)
       go_wp2_with (go_at_call 56;fail)
       refine HY.out.mono ?_
       rintro e w16 ⟨ty,rfl,⟨hty,I16,E16,hI',hE',hps'⟩,TW⟩
       have G16:=Lib.hid (And.intro hps' (And.intro (TW.heap G15.out.2.1 (by have:=HP.out.1;omega)) (G15.out.2.2.trans TW fun _ _ e=>e)))
       have M16:=Lib.hid (And.intro hI' (And.intro hE' hty))
       have V16:=Lib.hid (And.intro (TW.heap V15.out.1 (by have:=HP.out.1;have:=V15.out.2.2;omega)) (And.intro (V15.out.2.1.touch TW fun g _ h e=>by have h:b4<g:=h;have:=HP.out.1;omega) V15.out.2.2))
       clear hI' hE' hps' TW HY hty
       have HW:=Lib.hid (want_ q a n c I16 E16 (D+1) ⟨#[41]⟩ w16 G16.out.1)
       go_wp2_with (go_at_call 53;fail)
       refine HW.out.mono ?_
       rintro e w17 ⟨rfl,⟨I17,E17,hI',hE',hps'⟩,TW⟩
       have G17:=Lib.hid (And.intro hps' (And.intro (TW.heap G16.out.2.1 (by have:=HP.out.1;omega)) (G16.out.2.2.trans TW fun _ _ e=>e)))
       have M17:=Lib.hid (And.intro hI' hE')
       have V17:=Lib.hid (And.intro (TW.heap V16.out.1 (by have:=HP.out.1;have:=V16.out.2.2;omega)) (And.intro (V16.out.2.1.touch TW fun g _ h e=>by have h:b4<g:=h;have:=HP.out.1;omega) V16.out.2.2))
       clear hI' hE' hps' TW HW
       obtain ⟨hpsD,TD⟩:=G17.out.1.setD (J:=D) (by have:=G17.out.1.hD;omega)
       obtain ⟨_,_,_,d4⟩:=G17.out.1.cells
       have f4:=G17.out.1.frozen 4
       have d4:w17.cell? ⟨q,4,none⟩=some (.int .i64 ((D:Int)+1)):=by rw [d4];rfl
       have D0:(0:Int)≤D:=by omega
       have D24:(D:Int)≤24:=by have:=G17.out.1.hD;omega
       have dd:((D:Int)+1)-1=D:=by omega
       obtain ⟨w18,hW18⟩: ∃W,w17.setCell ⟨q,4,none⟩ (.int .i64 (D:Int))=W:=⟨_,rfl⟩
       rw [hW18] at hpsD TD
       have G18:=Lib.hid (And.intro hpsD (And.intro (TD.heap G17.out.2.1 (by have:=HP.out.1;omega)) (G17.out.2.2.trans TD fun _ _ e=>e)))
       have V18:=Lib.hid (And.intro (TD.heap V17.out.1 (by have:=HP.out.1;have:=V17.out.2.2;omega)) (And.intro (V17.out.2.1.touch TD fun g _ h e=>by have h:b4<g:=h;have:=HP.out.1;omega) V17.out.2.2))
       clear hpsD TD
       have z0:=row6 V18.out.1 0
       have z1:=row6 V18.out.1 1
       have z2:=row6 V18.out.1 2
       have z3:=row6 V18.out.1 3
       have z4:=row6 V18.out.1 4
       have z5:=row6 V18.out.1 5
       simp at z0 z1 z2 z3 z4 z5
       go_upto_region 35 with (fail)
       clear d4 f4 D0 D24 dd hW18
       obtain ⟨g9,hg9⟩: ∃X,w18.heap.size=X:=⟨_,rfl⟩
       obtain ⟨X9,hX9⟩: ∃W,w18.alloc (.cells #[.int .i64 k,.int .i64 o,.string s,.string t,.int .i64 x,.slice ua un uc] 24)=W:=⟨_,rfl⟩
       have u9:Ux.Touch (fun _=>False) w18 X9:=by rw [←hX9];exact (Ux.Touch.refl _ _).alloc _
       have rg9:X9.heap[g9]? =some (.cells #[.int .i64 k,.int .i64 o,.string s,.string t,.int .i64 x,.slice ua un uc] 24 (0,0)):=by rw [←hX9,←hg9];exact heap_alloc_new w18 _
       have h4:=Ux.lt_of_heap G18.out.2.1
       have G19:=Lib.hid (And.intro (G18.out.1.touch0 u9) (And.intro (u9.heap G18.out.2.1 (fun f=>f)) (G18.out.2.2.trans u9 fun _ _ f=>f.elim)))
       have HK:=Lib.hid (And.intro rg9 (And.intro (show b4<g9 by omega) (V18.out.2.1.touch0 u9)))
       have HMO:=Lib.hid (fun h=>by
        have h16:E16=0:=Classical.byContradiction fun h2=>M17.out.2 h2 h
        have h15:E15=0:=Classical.byContradiction fun h2=>M16.out.2.1 h2 h16
        have h13:E13=0:=Classical.byContradiction fun h2=>M15.out.2 h2 h15
        have h1:=(H13.out.2.1 h13).2
        have h2:=M12.out.1
        have h3:=M15.out.1
        have h5:=M16.out.1
        have h6:=M17.out.1
        exact ⟨rfl,by omega⟩:ExpP I 0 I17 E17)
       clear u9 rg9 h4
       go_wp2_with (refine Ux.is_store 24 rfl ?_;refine Ux.store6 rfl 24 _ _ rfl b4 _ _ _ _ _ _ rfl rfl 24 _ _ _ _ _ _ G19.out.2.1 (by kernel_rfl) (Ux.six_one _ _ _ _ _ _ _ _) ?_)
       intro W9 r9 t9
       go_wp2_with (fail)
       have x0:=row6 r9 0
       have x1:=row6 r9 1
       have x2:=row6 r9 2
       have x3:=row6 r9 3
       have x4:=row6 r9 4
       have x5:=row6 r9 5
       simp at x0 x1 x2 x3 x4 x5
       refine bodyPost_ret (by simp [results,Try.results39,go_sem,x0,x1,x2,x3,x4,x5];try rfl) rfl ?_
       have T9:Ux.Touch (fun b=>b=q) w W9:=G19.out.2.2.trans t9 fun b hb e=>by have:=HP.out.2;omega
       exact ⟨_,_,_,_,_,_,_,_,rfl,NP.node 12 0 ty ⟨#[]⟩ ⟨#[]⟩ (by unfold i64B;omega) i64_0 M16.out.2.2 (by decide) (by decide) _ 1 1 (Nat.le_refl _) (by decide) fun j hj=>by
        obtain rfl:j=0:=by omega
        have h9:=HK.out.2.1
        exact ⟨_,six_row (t9.heap HK.out.1 (by omega)) (by have:=HP.out.2;show w.heap.size≤g9;omega) 0 _ _ _ _ _ _ rfl rfl rfl rfl rfl rfl,(HK.out.2.2.touch t9 fun g _ h e=>by have h:b4<g:=h;omega).mono fun g _ h=>by have h:b4<g:=h;have:=HP.out.2;show w.heap.size≤g;omega⟩,⟨_,_,(fun h=>⟨rfl,(HMO.out h).2⟩),G19.out.1.touch t9 fun b hb e=>by have:=HP.out.1;omega⟩,T9⟩
     |false=>
      have HF:=Lib.hid (fail_ q a n c I 0 D 10 (by decide) 10 rfl w9 G9.out.1)
      go_wp2_with (go_at_call 31;fail)
      refine HF.out.mono ?_
      rintro e w10 ⟨rfl,hps',TF⟩
      have G10:=Lib.hid (And.intro hps' (And.intro (TF.heap G9.out.2.1 (by have:=HP.out.1;omega)) (G9.out.2.2.trans TF fun _ _ e=>e)))
      clear hps' TF HF
      go_wp2_with (refine Ux.is_store 24 rfl ?_;refine Ux.store6 rfl 24 _ _ rfl b4 _ _ _ _ _ _ rfl rfl 24 _ _ _ _ _ _ G10.out.2.1 (by kernel_rfl) (Ux.six_one _ _ _ _ _ _ _ _) ?_)
      intro W9 r9 t9
      go_wp2_with (fail)
      have x0:=row6 r9 0
      have x1:=row6 r9 1
      have x2:=row6 r9 2
      have x3:=row6 r9 3
      have x4:=row6 r9 4
      have x5:=row6 r9 5
      simp at x0 x1 x2 x3 x4 x5
      refine bodyPost_ret (by simp [results,Try.results39,go_sem,x0,x1,x2,x3,x4,x5];try rfl) rfl ?_
      have T9:Ux.Touch (fun b=>b=q) w W9:=G10.out.2.2.trans t9 fun b hb e=>by have:=HP.out.2;omega
      exact ⟨_,_,_,_,_,_,_,_,rfl,NP.zero _ _,⟨_,_,(fun h=>by cases h),G10.out.1.touch t9 fun b hb e=>by have:=HP.out.1;omega⟩,T9⟩
end Go.Proofs.Ytmonfaepfbpdpaa
