/- A part of the proof that the statement holds for every input that it names. No other condition. -/
import Derived.Test.YtmonfaepfbpdpaaP37Z
import Derived.Test.YtmonfaepfbpdpaaShowAZ
import Derived.Test.YtmonfaepfbpdpaaP24Z
import Derived.Test.YtmonfaepfbpdpaaSafeAZ
set_option linter.unusedVariables false
set_option linter.unusedSimpArgs false
namespace Go.Proofs.Ytmonfaepfbpdpaa
open Go.RowKit
open Ux (i64B ND NRows nodV Nod)
theorem NRows.low {A:Nat→Prop} {w:World} {l:List Nod} {v:Value} (h:NRows w A l v):NRows w (fun g=>g<w.heap.size) l v:=h.mono fun _ hg _=>hg
theorem NAt.low {A:Nat→Prop} {w:World} {g off:Nat} {x:Nod} (h:NAt w A g off x):NAt w (fun g=>g<w.heap.size) g off x:=h.mono fun _ hg _=>hg
def TrueR (w w':World) (e:Ending):Prop:=e= .returned (.bool true)∧Ux.Touch (fun _=>False) w w'
set_option maxHeartbeats 8000000 in
set_option maxRecDepth 100000 in
theorem lawParts_ (x:Nod) (A:Nat→Prop) (w:World) (u:Value) (h:ND w A x (nodV x u)):Calls Try.prog 3 #[nodV x u] w fun e w'=>TrueR w w' e:=by
 obtain ⟨v,e,hf,hr⟩:=h.open
 obtain ⟨a,c,rfl,hc⟩:=hr.is
 obtain rfl:u= .slice a x.l.length c:=by unfold nodV at e;simpa using e
 obtain ⟨n,hn⟩: ∃n,x.l.length=n:=⟨_,rfl⟩
 have n0:(n:Int)≤140737488355328:=by have:=hf.2.2.2.2.2;omega
 have n1:(n:Int)≤c:=by omega
 obtain ⟨W1,hW1⟩: ∃W,w.alloc (.cells #[.int .i64 x.kind,.int .i64 x.op,.string x.s,.string x.t,.int .i64 x.n,.slice a n c] 24)=W:=⟨_,rfl⟩
 obtain ⟨b1,hb1⟩: ∃b,w.heap.size=b:=⟨_,rfl⟩
 have t1:Ux.Touch (fun _=>False) w W1:=by rw [←hW1];exact (Ux.Touch.refl _ _).alloc _
 have r1:W1.heap[b1]? =some (.cells #[.int .i64 x.kind,.int .i64 x.op,.string x.s,.string x.t,.int .i64 x.n,.slice a n c] 24 (0,0)):=by rw [←hW1,←hb1];exact heap_alloc_new w _
 have c0:=cell_of_row W1 b1 0 _ _ (0,0) r1
 have c1:=cell_of_row W1 b1 1 _ _ (0,0) r1
 have c2:=cell_of_row W1 b1 2 _ _ (0,0) r1
 have c3:=cell_of_row W1 b1 3 _ _ (0,0) r1
 have c4:=cell_of_row W1 b1 4 _ _ (0,0) r1
 have c5:=cell_of_row W1 b1 5 _ _ (0,0) r1
 simp at c0 c1 c2 c3 c4 c5
 have hgoal:nodV x (.slice a x.l.length c)= .agg #[.int .i64 x.kind,.int .i64 x.op,.string x.s,.string x.t,.int .i64 x.n,.slice a n c]:=by rw [hn];rfl
 rw [hgoal]
 have h1:=h.touch0 t1
 have r1':=r1
 rw [←hn] at r1'
 have hat:=NAt.row r1' (h1.mono (A':=fun g=>g<W1.heap.size) fun _ hg _=>hg) (Ux.lt_of_heap r1)
 have hN:nodV x (.slice a x.l.length c)= .agg #[.int .i64 x.kind,.int .i64 x.op,.string x.s,.string x.t,.int .i64 x.n,.slice a n c]:=by rw [hn];rfl
 have HSM:=Lib.hid (smallX_ x A W1 _ h1)
 have HSH:=Lib.hid fun W (T:Ux.Touch (fun _=>False) W1 W)=>show_ x A W _ (h1.touch0 T)
 have HLC:=Lib.hid fun W (T:Ux.Touch (fun _=>False) W1 W)=>lconj_ x A W _ (h1.touch0 T)
 rw [hN] at HSM HSH HLC
 have HAT:=Lib.hid fun W (T:Ux.Touch (fun _=>False) W1 W)=>hat.touch0 T
 have HT:=Lib.hid (And.intro t1 r1)
 clear hgoal t1 r1 r1' h h1 hat hr e hf hc hn n0 n1 hN
 go_enter Try.func3,Try.ntmps3
 go_wp2_with (go_at_call 4;fail)
 refine HSM.out.mono ?_
 rintro e w2 ⟨b,rfl,hb,T2⟩
 have H2:=Lib.hid (And.intro hb T2)
 clear hb T2 hW1 hb1 HSM c0 c1 c2 c3 c4 c5
 cases b with
 |false=>
  have HA:=Lib.hid (awake22_ w2)
  go_wp2_with (go_at_call 5;fail)
  refine HA.out.mono ?_
  rintro e w3 ⟨rfl,T3⟩
  have H3:=Lib.hid T3
  clear T3
  go_wp2_with (fail)
  go_returns
  exact ⟨rfl,(HT.out.1.trans H2.out.2 fun _ _ f=>f.elim).trans H3.out fun _ _ f=>f.elim⟩
 |true=>
  obtain ⟨hcnt,hok⟩:=H2.out.1 (by rfl)
  have hwt:x.wt≤10000000:=by have:=Nod.wt_le x hok;omega
  obtain ⟨hca,hcn,hcl⟩:=Nod.conj_atom x
  have HX:=Lib.hid (And.intro hwt (And.intro hca (And.intro hcn (show x.conj.length≤300 by omega))))
  clear hcnt hok hwt hca hcn hcl
  have r2:=H2.out.2.heap HT.out.2 (fun f=>f)
  have c0:=row6 r2 0
  have c1:=row6 r2 1
  have c2:=row6 r2 2
  have c3:=row6 r2 3
  have c4:=row6 r2 4
  have c5:=row6 r2 5
  simp at c0 c1 c2 c3 c4 c5
  clear r2
  go_wp2_with (go_at_call 6;fail)
  refine (HSH.out w2 H2.out.2 HX.out.1).mono ?_
  rintro e w3 ⟨t,b,rfl,T3⟩
  have H3:=Lib.hid (H2.out.2.trans T3 fun _ _ f=>f.elim)
  clear T3 HSH c0 c1 c2 c3 c4 c5
  cases b with
  |false=>
   have HA:=Lib.hid (awake22_ w3)
   go_wp2_with (go_at_call 5;fail)
   refine HA.out.mono ?_
   rintro e w4 ⟨rfl,T4⟩
   have H4:=Lib.hid T4
   clear T4
   go_wp2_with (fail)
   go_returns
   exact ⟨rfl,(HT.out.1.trans H3.out fun _ _ f=>f.elim).trans H4.out fun _ _ f=>f.elim⟩
  |true=>
   go_wp2_with (go_at_call 7;fail)
   refine (pconj_ x _ w3 b1 0 (HAT.out w3 H3.out) (by have:=HX.out.2.2.2;omega)).mono ?_
   rintro e w4 ⟨v5,rfl,hv5,T4⟩
   have hv5:=NRows.low hv5
   obtain ⟨l,hl⟩: ∃l,x.conj=l:=⟨_,rfl⟩
   rw [hl] at hv5 HX
   obtain ⟨a5,k5,rfl,hk5⟩:=hv5.is
   have HLL:=Lib.hid hl
   have H4:=Lib.hid (And.intro (H3.out.trans T4 fun _ _ f=>f.elim) hv5)
   clear T4 hv5 HAT hl
   have r4:=H4.out.1.heap HT.out.2 (fun f=>f)
   have c0:=row6 r4 0
   have c1:=row6 r4 1
   have c2:=row6 r4 2
   have c3:=row6 r4 3
   have c4:=row6 r4 4
   have c5:=row6 r4 5
   simp at c0 c1 c2 c3 c4 c5
   clear r4
   go_wp2_with (go_at_call 9;fail)
   refine (HLC.out w4 H4.out.1 (by have:=HX.out.2.2.2;rw [HLL.out];omega)).mono ?_
   rintro e w5 ⟨v6,rfl,hv6,T5⟩
   have hr6:=NRows.low hv6.rows
   rw [HLL.out] at hr6
   have H5:=Lib.hid (And.intro (H4.out.1.trans T5 fun _ _ f=>f.elim) (And.intro (NRows.low (H4.out.2.touch0 T5)) hr6))
   have HS1:=Lib.hid (sameN_ l l (fun y _=>same_ y) _ _ w5 _ _ (H4.out.2.touch0 T5) hr6 (by have:=HX.out.2.2.2;omega) (by have:=HX.out.2.2.2;omega))
   clear T5 hr6 hv6 HLC c0 c1 c2 c3 c4 c5
   go_wp2_with (go_at_call 8;fail)
   refine HS1.out.mono ?_
   rintro e w6 ⟨b,rfl,hb,T6⟩
   obtain rfl:=hb (by trivial)
   have H6:=Lib.hid (And.intro (H5.out.1.trans T6 fun _ _ f=>f.elim) (NRows.low (H5.out.2.1.touch0 T6)))
   clear hb T6 HS1
   obtain ⟨h0,tl,hht⟩: ∃h0 tl,l=h0::tl:=by
    cases l with
    |nil=>exact absurd rfl HX.out.2.2.1
    |cons a b=>exact ⟨a,b,rfl⟩
   have hcj:(Nod.joinT h0 tl).conj=l:=by rw [hht];exact Nod.conj_joinT h0 tl (HX.out.2.1 h0 (by rw [hht];exact List.mem_cons_self)) fun y hy=>HX.out.2.1 y (by rw [hht];exact List.mem_cons_of_mem _ hy)
   have HJ:=Lib.hid (join_ h0 tl _ w6 _ (by rw [←hht];exact H6.out.2) (by rw [←hht];have:=HX.out.2.2.2;omega))
   have HC:=Lib.hid (And.intro hht hcj)
   clear hht hcj
   go_wp2_with (go_at_call 10;fail)
   refine HJ.out.mono ?_
   rintro e w7 ⟨b6,rfl,hb6,T7⟩
   have H7:=Lib.hid (And.intro (H6.out.1.trans T7 fun _ _ f=>f.elim) (And.intro (NRows.low (H6.out.2.touch0 T7)) hb6.low))
   clear hb6 T7 HJ
   go_wp2_with (go_at_call 7;fail)
   refine (pconj_ (Nod.joinT h0 tl) _ w7 b6 0 H7.out.2.2 (by rw [HC.out.2];have:=HX.out.2.2.2;omega)).mono ?_
   rintro e w8 ⟨v7,rfl,hv7,T8⟩
   rw [HC.out.2] at hv7
   have H8:=Lib.hid (And.intro (H7.out.1.trans T8 fun _ _ f=>f.elim) (And.intro (NRows.low (H7.out.2.1.touch0 T8)) (H7.out.2.2.touch0 T8).low))
   have HS2:=Lib.hid (sameN_ l l (fun y _=>same_ y) _ _ w8 _ _ hv7 (H7.out.2.1.touch0 T8) (by have:=HX.out.2.2.2;omega) (by have:=HX.out.2.2.2;omega))
   clear hv7 T8
   go_wp2_with (go_at_call 8;fail)
   refine HS2.out.mono ?_
   rintro e w9 ⟨b,rfl,hb,T9⟩
   obtain rfl:=hb (by trivial)
   have H9:=Lib.hid (And.intro (H8.out.1.trans T9 fun _ _ f=>f.elim) (And.intro (NRows.low (H8.out.2.1.touch0 T9)) (H8.out.2.2.touch0 T9).low))
   clear hb T9 HS2
   obtain ⟨n,hn⟩: ∃n,l.length=n:=⟨_,rfl⟩
   obtain ⟨k,hk⟩: ∃k,tl.length=k:=⟨_,rfl⟩
   have hnk:n=k+1:=by rw [←hn,HC.out.1,←hk];rfl
   subst hnk
   have HL:=Lib.hid (And.intro hn hk)
   have n0:(k:Int)+1≤300:=by have:=HX.out.2.2.2;omega
   have n1:(k:Int)+1≤k5:=by have:l.length≤k5:=hk5;omega
   have n2:(0:Int)≤k:=by omega
   rw [hn]
   clear hn hk hk5
   ·
    go_wp2_with (fail)
    go_loopg [7] (k+1) (fun gk s7 wr=> ∃i:Nat,s7= .int .i64 i∧i+gk=k+1∧Hid ((∀j y,j<i→l[j]? =some y→safeB y=true)∧Ux.Touch (fun _=>False) w9 wr))
    case atStart=>exact ⟨0,rfl,by omega,Lib.hid ⟨fun j y hj=>by omega,Ux.Touch.refl _ _⟩⟩
    case round=>
     obtain ⟨i,rfl,hig,HI⟩:=hrel
     have i0:(0:Int)≤i:=by omega
     have HG:=Lib.hid hig
     clear hig
     go_upto_region 13 with (fail)
     go_cut [49] (fun s49 wx=> ∃z,s49= .bool z∧Hid (z=true→i<k+1∧∀y,l[i]? =some y→safeB y=true)∧Hid (z=false→leadN l=i)∧Hid (Ux.Touch (fun _=>False) w9 wx))
     case first=>
      as_aux_lemma=>
       by_cases hlt:i<k+1
       ·have i1:(i:Int)<(k:Int)+1:=by omega
        obtain ⟨y,hy⟩: ∃y,l[i]? =some y:=⟨_,List.getElem?_eq_getElem (by have:=HL.out.1;omega)⟩
        obtain ⟨g,off,ua,uc,rfl,_,_,y0,y1,y2,y3,y4,y5,hny⟩:=(H9.out.2.1.touch0 HI.out.2).at hy
        obtain ⟨sb,hsb⟩: ∃b,safeB y=b:=⟨_,rfl⟩
        have HSF:=Lib.hid (safe_ y _ wr _ hny)
        rw [hsb] at HSF
        have HK:=Lib.hid (And.intro hy (And.intro hsb hlt))
        clear hy hlt hny hsb
        go_wp2_with (go_at_call 11;fail)
        have hcw:=HSF.out
        unfold nodV at hcw
        refine hcw.mono ?_
        clear hcw
        rintro e wn ⟨rfl,Tn⟩
        have HN:=Lib.hid (HI.out.2.trans Tn fun _ _ f=>f.elim)
        clear Tn y0 y1 y2 y3 y4 y5 HSF
        cases sb with
        |false=>
         go_wp2_with (fail)
         all_goals go_meet
         all_goals exact ⟨false,rfl,Lib.hid (fun h=>by cases h),Lib.hid (fun _=>leadN_stop HI.out.1 (by have:=HK.out.2.2;have:=HL.out.1;omega) fun z hz=>by have e:=HK.out.1;rw [hz] at e;cases e;exact HK.out.2.1),HN⟩
        |true=>
         go_wp2_with (fail)
         all_goals go_meet
         all_goals exact ⟨true,rfl,Lib.hid (fun _=>⟨HK.out.2.2,fun z hz=>by have e:=HK.out.1;rw [hz] at e;cases e;exact HK.out.2.1⟩),Lib.hid (fun h=>by cases h),HN⟩
       ·have i1: ¬(i:Int)<(k:Int)+1:=by omega
        have HK:=Lib.hid hlt
        clear hlt
        go_wp2_with (fail)
        all_goals go_meet
        all_goals exact ⟨false,rfl,Lib.hid (fun h=>by cases h),Lib.hid (fun _=>leadN_stop HI.out.1 (by have:=HL.out.1;have:=HG.out;omega) fun z hz=>by rw [List.getElem?_eq_none (by have:=HK.out;have:=HL.out.1;omega)] at hz;cases hz),Lib.hid HI.out.2⟩
     obtain ⟨z,rfl,HZ1,HZ2,HZ3⟩:=hcut
     cases z with
     |true=>
      obtain ⟨g',rfl⟩: ∃g',gk=g'+1:=⟨gk-1,by have:=(HZ1.out (by simp)).1;have:=HG.out;omega⟩
      have i9:(i:Int)≤300:=by have:=HG.out;omega
      go_wp2_with (fail)
      go_roundg g'
      case measure=>omega
      case rel=>
       refine ⟨i+1,rfl,by have:=HG.out;omega,Lib.hid ⟨fun j y hj hy=> ?_,HZ3.out⟩⟩
       by_cases e:j=i
       ·subst e;exact (HZ1.out (by simp)).2 y hy
       ·exact HI.out.1 j y (by omega) hy
     |false=>
      have hle:=HZ2.out (by simp)
      have HLE:=Lib.hid hle
      have HW:=Lib.hid (And.intro (H9.out.1.trans HZ3.out fun _ _ f=>f.elim) (And.intro (NRows.low (H9.out.2.1.touch0 HZ3.out)) (H9.out.2.2.touch0 HZ3.out).low))
      clear hle HZ1 HZ2 HZ3 HI HG
      ·
       have hgl:l[0]? =some h0:=by rw [HC.out.1];rfl
       obtain ⟨g,off,ua,uc,rfl,hg5,_,d0,d1,d2,d3,d4,d5,hnd0⟩:=HW.out.2.1.at hgl
       have d0:wc.cell? ⟨g,off,none⟩=some (.int .i64 h0.kind):=by simpa using d0
       have d1:wc.cell? ⟨g,off+1,none⟩=some (.int .i64 h0.op):=by simpa using d1
       have d2:wc.cell? ⟨g,off+2,none⟩=some (.string h0.s):=by simpa using d2
       have d3:wc.cell? ⟨g,off+3,none⟩=some (.string h0.t):=by simpa using d3
       have d4:wc.cell? ⟨g,off+4,none⟩=some (.int .i64 h0.n):=by simpa using d4
       have d5:wc.cell? ⟨g,off+5,none⟩=some (.slice ua h0.l.length uc):=by simpa using d5
       obtain ⟨b8,hb8⟩: ∃b,wc.heap.size=b:=⟨_,rfl⟩
       obtain ⟨Z8,hZ8⟩: ∃W,wc.alloc (.cells #[.int .i64 0,.int .i64 0,.string ⟨#[]⟩,.string ⟨#[]⟩,.int .i64 0,.slice none 0 0] 24)=W:=⟨_,rfl⟩
       have rz8:Z8.heap[b8]? =some (.cells #[.int .i64 0,.int .i64 0,.string ⟨#[]⟩,.string ⟨#[]⟩,.int .i64 0,.slice none 0 0] 24 (0,0)):=by rw [←hZ8,←hb8];exact heap_alloc_new wc _
       have tz8:Ux.Touch (fun _=>False) wc Z8:=by rw [←hZ8];exact (Ux.Touch.refl _ _).alloc _
       have HB:=Lib.hid hb8
       have HND:=Lib.hid hnd0
       clear hgl hg5 hnd0
       go_wp2_with (refine Ux.is_store 24 rfl ?_;refine Ux.store6 rfl 24 _ _ rfl b8 _ _ _ _ _ _ rfl rfl 24 _ _ _ _ _ _ rz8 (by kernel_rfl) (Ux.six_one _ _ _ _ _ _ _ _) ?_)
       intro W2 q2 u2
       have T2':Ux.Touch (fun _=>False) wc W2:=tz8.trans (R:=fun _=>False) u2 fun b hb e=>by omega
       have HQ:=Lib.hid (And.intro T2' q2)
       clear hZ8 rz8 tz8 u2 q2 T2' d0 d1 d2 d3 d4 d5 hb8
       go_wp2_with (fail)
       go_loopg [9] k (fun gk s9 wr=> ∃j:Nat,s9= .int .i64 ((j:Int)+1)∧j+gk=k∧Hid (∃z ua uc,wr.heap[b8]? =some (.cells #[.int .i64 z.kind,.int .i64 z.op,.string z.s,.string z.t,.int .i64 z.n,.slice ua z.l.length uc] 24 (0,0))∧ND wr (fun g=>g<wc.heap.size∨b8<g) z (nodV z (.slice ua z.l.length uc))∧z=Nod.joinT h0 (tl.take j)∧Ux.Touch (fun b=>b=b8) W2 wr))
       case atStart=>exact ⟨0,rfl,by omega,Lib.hid ⟨h0,ua,uc,HQ.out.2,(HND.out.touch0 HQ.out.1).mono fun _ _ h=> .inl h,by rw [List.take_zero];rfl,Ux.Touch.refl _ _⟩⟩
       case round=>
        obtain ⟨j,rfl,hig,HI⟩:=hrel
        obtain ⟨z,za,zc,rz,hz,hzj,TI⟩:=HI.out
        have i0:(0:Int)≤j:=by omega
        by_cases hlt:j<k
        ·obtain ⟨g',rfl⟩: ∃g',gk=g'+1:=⟨gk-1,by omega⟩
         have i1:(j:Int)+1<(k:Int)+1:=by omega
         have i2:(0:Int)≤(j:Int)+1:=by omega
         obtain ⟨y,hy⟩: ∃y,tl[j]? =some y:=⟨_,List.getElem?_eq_getElem (by have:=HL.out.2;omega)⟩
         have hy':l[j+1]? =some y:=by rw [HC.out.1];exact hy
         have hrw:=(HW.out.2.1.touch0 HQ.out.1).touch TI fun g' _ hg' e=>by have:=HB.out;omega
         obtain ⟨g',off',va,vc,e',_,_,f0,f1,f2,f3,f4,f5,hny⟩:=hrw.at hy'
         obtain ⟨rfl,rfl⟩:g=g'∧off=off':=by cases e';exact ⟨rfl,rfl⟩
         have x0:=row6 rz 0
         have x1:=row6 rz 1
         have x2:=row6 rz 2
         have x3:=row6 rz 3
         have x4:=row6 rz 4
         have x5:=row6 rz 5
         simp at x0 x1 x2 x3 x4 x5
         have HS:=Lib.hid fun W (T:Ux.Touch (fun _=>False) wr W)=>And.intro (T.cell x0 (fun f=>f)) (And.intro (T.cell x1 (fun f=>f)) (And.intro (T.cell x2 (fun f=>f)) (And.intro (T.cell x3 (fun f=>f)) (And.intro (T.cell x4 (fun f=>f)) (And.intro (T.cell x5 (fun f=>f)) (And.intro (T.cell f0 (fun f=>f)) (And.intro (T.cell f1 (fun f=>f)) (And.intro (T.cell f2 (fun f=>f)) (And.intro (T.cell f3 (fun f=>f)) (And.intro (T.cell f4 (fun f=>f)) (T.cell f5 (fun f=>f))))))))))))
         have HY:=Lib.hid (And.intro hy (And.intro hny (And.intro hz (And.intro hzj (And.intro TI (And.intro hig rz))))))
         clear hy hy' hny hz hzj TI hig hrw e' rz HI
         go_upto_region 19 with (fail)
         obtain ⟨wk,hwk⟩: ∃W,wr.drew=W:=⟨_,rfl⟩
         have Tk:=Lib.hid (show Ux.Touch (fun _=>False) wr wk by rw [←hwk];exact (Ux.Touch.refl _ _).drew)
         refine Ux.wpr (fun _ w'=>w'.cell? ⟨b8,0,none⟩=some (.int .i64 z.kind)∧w'.cell? ⟨b8,1,none⟩=some (.int .i64 z.op)∧w'.cell? ⟨b8,2,none⟩=some (.string z.s)∧w'.cell? ⟨b8,3,none⟩=some (.string z.t)∧w'.cell? ⟨b8,4,none⟩=some (.int .i64 z.n)∧w'.cell? ⟨b8,5,none⟩=some (.slice za z.l.length zc)∧w'.cell? ⟨g,off+(j+1)*6,none⟩=some (.int .i64 y.kind)∧w'.cell? ⟨g,off+(j+1)*6+1,none⟩=some (.int .i64 y.op)∧w'.cell? ⟨g,off+(j+1)*6+2,none⟩=some (.string y.s)∧w'.cell? ⟨g,off+(j+1)*6+3,none⟩=some (.string y.t)∧w'.cell? ⟨g,off+(j+1)*6+4,none⟩=some (.int .i64 y.n)∧w'.cell? ⟨g,off+(j+1)*6+5,none⟩=some (.slice va y.l.length vc)) (.h false [0] (.q [1,2,3] (.h false [4] (.e 5 true true (.q [6] (.line [7])))))) ?_;repeat ((with_reducible refine Ux.qg ?_);refine Ux.qu ?_)
         obtain ⟨g9,hg9⟩: ∃X,wk.heap.size=X:=⟨_,rfl⟩
         obtain ⟨wn,hwn⟩: ∃W,wk.alloc (.cells #[.int .i64 z.kind,.int .i64 z.op,.string z.s,.string z.t,.int .i64 z.n,.slice za z.l.length zc,.int .i64 y.kind,.int .i64 y.op,.string y.s,.string y.t,.int .i64 y.n,.slice va y.l.length vc] 24)=W:=⟨_,rfl⟩
         have Tn:Ux.Touch (fun _=>False) wk wn:=by rw [←hwn];exact (Ux.Touch.refl _ _).alloc _
         have r9:wn.heap[g9]? =some (.cells #[.int .i64 z.kind,.int .i64 z.op,.string z.s,.string z.t,.int .i64 z.n,.slice za z.l.length zc,.int .i64 y.kind,.int .i64 y.op,.string y.s,.string y.t,.int .i64 y.n,.slice va y.l.length vc] 24 (0,0)):=by rw [←hwn,←hg9];exact heap_alloc_new wk _
         have Twn:=Tk.out.trans Tn fun _ _ f=>f.elim
         have hb9:b8<g9:=by have:=Ux.lt_of_heap HY.out.2.2.2.2.2.2;have:=Tk.out.size;omega
         have hnew:=ND.and2 (A:=fun g=>g<wc.heap.size∨b8<g) r9 (.inr hb9) (HY.out.2.2.1.touch0 Twn) ((HY.out.2.1.touch0 Twn).mono fun _ _ h=> .inl h)
         have H9n:=Lib.hid (And.intro hnew (And.intro Twn (And.intro hb9 (Twn.heap HY.out.2.2.2.2.2.2 (fun f=>f)))))
         have Tk:=Lib.hid Twn
         clear Tn r9 hb9 Twn hnew
         go_wp2_with (fail)
         clear hwn hg9
         obtain ⟨wk,rfl⟩: ∃W,W=wn:=⟨_,rfl⟩
         first|refine ⟨⟨HS.out _ Tk.out,HS.out _ Tk.out⟩,?_⟩|refine ⟨HS.out _ Tk.out,?_⟩
         repeat ((with_reducible refine Ux.qg ?_);refine Ux.qu ?_)
         have r3n:=H9n.out.2.2.2
         go_wp2_with (refine Ux.is_store 24 rfl ?_;refine Ux.store6 rfl 24 _ _ rfl b8 _ _ _ _ _ _ rfl rfl 24 _ _ _ _ _ _ r3n (by kernel_rfl) (Ux.six_one _ _ _ _ _ _ _ _) ?_)
         intro W6 r6 t6
         have H6':=Lib.hid (And.intro r6 t6)
         clear r3n r6 t6
         go_wp2_with (fail)
         go_roundg g'
         case measure=>omega
         case rel=>
          refine ⟨j+1,by simp,by have:=HY.out.2.2.2.2.2.1;omega,Lib.hid ⟨Nod.and2 z y,some ⟨g9,0,none⟩,2,H6'.out.1,H9n.out.1.touch H6'.out.2 fun g hg h e=> ?_,?_,(HY.out.2.2.2.2.1.trans H9n.out.2.1 fun _ _ f=>f.elim).trans H6'.out.2 fun _ _ e=>e⟩⟩
          ·rcases h with h|h
           ·have:=HB.out;omega
           ·omega
          ·rw [Nod.joinT_take HY.out.1,←HY.out.2.2.2.1]
        ·have i1: ¬(j:Int)+1<(k:Int)+1:=by omega
         have hfin:Nod.joinT h0 (tl.take j)=Nod.joinT h0 tl:=by rw [List.take_of_length_le (by have:=HL.out.2;omega)]
         have hTT:Ux.Touch (fun _=>False) wc wr:=HQ.out.1.trans (R:=fun _=>False) TI fun b hb e=>by have:=HB.out;omega
         have HZ:=Lib.hid (And.intro rz (And.intro hz (And.intro (hzj.trans hfin) hTT)))
         have hl5:=HW.out.2.1.touch0 hTT
         have HLD:=Lib.hid fun W (T:Ux.Touch (fun _=>False) wr W)=>lead_ l _ W _ (hl5.touch0 T) (by have:=HX.out.2.2.2;omega)
         have hj6:=HW.out.2.2.touch0 hTT
         obtain ⟨ja,jc,c0,c1,c2,c3,c4,c5,hnj,_,_⟩:=hj6
         have x0:=row6 rz 0
         have x1:=row6 rz 1
         have x2:=row6 rz 2
         have x3:=row6 rz 3
         have x4:=row6 rz 4
         have x5:=row6 rz 5
         simp at x0 x1 x2 x3 x4 x5
         simp only [Nat.zero_add] at c1 c2 c3 c4 c5
         have HSN:=Lib.hid fun W (T:Ux.Touch (fun _=>False) wr W)=>same_ (Nod.joinT h0 tl) z _ _ W _ _ (hnj.touch0 T) (hz.touch0 T)
         have HS:=Lib.hid fun W (T:Ux.Touch (fun _=>False) wr W)=>And.intro (T.cell c0 (fun f=>f)) (And.intro (T.cell c1 (fun f=>f)) (And.intro (T.cell c2 (fun f=>f)) (And.intro (T.cell c3 (fun f=>f)) (And.intro (T.cell c4 (fun f=>f)) (And.intro (T.cell c5 (fun f=>f)) (And.intro (T.cell x0 (fun f=>f)) (And.intro (T.cell x1 (fun f=>f)) (And.intro (T.cell x2 (fun f=>f)) (And.intro (T.cell x3 (fun f=>f)) (And.intro (T.cell x4 (fun f=>f)) (T.cell x5 (fun f=>f))))))))))))
         clear hlt hzj TI hfin hTT hl5 hnj hz rz HI hig
         go_upto_region 20 with (fail)
         obtain ⟨wk,hwk⟩: ∃W,wr.drew=W:=⟨_,rfl⟩
         have Tk:=Lib.hid (show Ux.Touch (fun _=>False) wr wk by rw [←hwk];exact (Ux.Touch.refl _ _).drew)
         refine Ux.wpr (fun _ w'=>w'.cell? ⟨b6,0,none⟩=some (.int .i64 (Nod.joinT h0 tl).kind)∧w'.cell? ⟨b6,1,none⟩=some (.int .i64 (Nod.joinT h0 tl).op)∧w'.cell? ⟨b6,2,none⟩=some (.string (Nod.joinT h0 tl).s)∧w'.cell? ⟨b6,3,none⟩=some (.string (Nod.joinT h0 tl).t)∧w'.cell? ⟨b6,4,none⟩=some (.int .i64 (Nod.joinT h0 tl).n)∧w'.cell? ⟨b6,5,none⟩=some (.slice ja (Nod.joinT h0 tl).l.length jc)∧w'.cell? ⟨b8,0,none⟩=some (.int .i64 z.kind)∧w'.cell? ⟨b8,1,none⟩=some (.int .i64 z.op)∧w'.cell? ⟨b8,2,none⟩=some (.string z.s)∧w'.cell? ⟨b8,3,none⟩=some (.string z.t)∧w'.cell? ⟨b8,4,none⟩=some (.int .i64 z.n)∧w'.cell? ⟨b8,5,none⟩=some (.slice za z.l.length zc)) (.q [0,2] (.e 1 true false (.q [3,4,5,6] (.h false [7,8] (.e 9 false false (.q [10,11] (.e 12 true false (.q [13] (.line [14]))))))))) ?_;repeat ((with_reducible refine Ux.qg ?_);refine Ux.qu ?_)
         go_wp2_with (go_at_call 12;fail)
         have hcw:=HLD.out wk Tk.out
         rw [HL.out.1] at hcw
         refine hcw.mono ?_
         clear hcw
         rintro e wn ⟨rfl,Tn⟩
         rw [HLE.out]
         have Tk:=Lib.hid (Tk.out.trans Tn fun _ _ f=>f.elim)
         clear Tn
         go_wp2_with (fail)
         obtain ⟨wk,rfl⟩: ∃W,W=wn:=⟨_,rfl⟩
         refine ⟨HS.out _ Tk.out,?_⟩
         repeat ((with_reducible refine Ux.qg ?_);refine Ux.qu ?_)
         repeat ((with_reducible refine Ux.qg ?_);refine Ux.qu ?_)
         go_wp2_with (go_at_call 13;fail)
         have hcw:=HSN.out wk Tk.out
         unfold nodV at hcw
         refine hcw.mono ?_
         clear hcw
         rintro e wn ⟨b,rfl,hb,Tn⟩
         obtain rfl:=hb HZ.out.2.2.1.symm
         have Tk:=Lib.hid (Tk.out.trans Tn fun _ _ f=>f.elim)
         clear hb Tn
         go_wp2_with (fail)
         obtain ⟨wk,rfl⟩: ∃W,W=wn:=⟨_,rfl⟩
         repeat ((with_reducible refine Ux.qg ?_);refine Ux.qu ?_)
         go_wp2_with (go_at_call 5;fail)
         refine (awake22_ wk).mono ?_
         rintro e wn ⟨rfl,Tn⟩
         have Tk:=Lib.hid (Tk.out.trans Tn fun _ _ f=>f.elim)
         clear Tn
         go_wp2_with (fail)
         obtain ⟨wk,rfl⟩: ∃W,W=wn:=⟨_,rfl⟩
         refine ⟨HS.out _ Tk.out,?_⟩
         repeat ((with_reducible refine Ux.qg ?_);refine Ux.qu ?_)
         go_wp2_with (fail)
         go_returns
         exact ⟨rfl,((HT.out.1.trans HW.out.1 fun _ _ f=>f.elim).trans HZ.out.2.2.2 fun _ _ f=>f.elim).trans Tk.out fun _ _ f=>f.elim⟩
end Go.Proofs.Ytmonfaepfbpdpaa
