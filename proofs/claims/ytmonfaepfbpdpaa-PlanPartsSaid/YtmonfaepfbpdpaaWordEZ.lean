/- A part of the proof that the statement holds for every input that it names. No other condition. -/
import Derived.Test.YtmonfaepfbpdpaaWordAZ
import Derived.Test.YtmonfaepfbpdpaaUxFewZ
set_option linter.unusedVariables false
set_option linter.unusedSimpArgs false
namespace Go.Proofs.Ytmonfaepfbpdpaa
open Go.RowKit
open Ux (i64B ND NRows nodV Nod)
theorem litSz10 (d:Array UInt8):(ByteArray.mk d).size=d.size:=rfl
set_option maxHeartbeats 8000000 in
set_option maxRecDepth 100000 in
theorem words10_ (x:Nod) (H: ∀y∈x.l,AtC y) (hk:x.kind=10) (A:Nat→Prop) (w:World) (u:Value) (h:ND w A x (nodV x u)) (hwt:x.wt≤10000000):Calls Try.prog 16 #[nodV x u] w fun e w'=>StrR x.wt w w' e:=by
 obtain ⟨v,e,hf,hr⟩:=h.open
 obtain ⟨a,c,rfl,hc⟩:=hr.is
 obtain rfl:u= .slice a x.l.length c:=by unfold nodV at e;simpa using e
 obtain ⟨n,hn⟩: ∃n,x.l.length=n:=⟨_,rfl⟩
 have n0:(n:Int)≤140737488355328:=by have:=hf.2.2.2.2.2;omega
 have n1:(n:Int)≤c:=by omega
 obtain ⟨W1,hW1⟩: ∃W,w.alloc (.cells #[.int .i64 x.kind,.int .i64 x.op,.string x.s,.string x.t,.int .i64 x.n,.slice a n c] 24)=W:=⟨_,rfl⟩
 obtain ⟨b1,hb1⟩: ∃b,w.heap.size=b:=⟨_,rfl⟩
 have t1:Ux.Touch (fun _=>False) w W1:=by rw [←hW1];exact (Ux.Touch.refl _ _).alloc _
 have r1:W1.heap[b1]? =some (.cells #[.int .i64 x.kind,.int .i64 x.op,.string x.s,.string x.t,.int .i64 x.n,.slice a n c] 24 (0,0)):=by rw [←hW1,←hb1];exact heap_alloc_new w _
 have c0:=cell_of_row W1 b1 0 _ _ (0,0) r1
 have c1:=cell_of_row W1 b1 1 _ _ (0,0) r1
 have c2:=cell_of_row W1 b1 2 _ _ (0,0) r1
 have c3:=cell_of_row W1 b1 3 _ _ (0,0) r1
 have c4:=cell_of_row W1 b1 4 _ _ (0,0) r1
 have c5:=cell_of_row W1 b1 5 _ _ (0,0) r1
 simp at c0 c1 c2 c3 c4 c5
 have hgoal:nodV x (.slice a x.l.length c)= .agg #[.int .i64 x.kind,.int .i64 x.op,.string x.s,.string x.t,.int .i64 x.n,.slice a n c]:=by rw [hn];rfl
 rw [hgoal]
 rw [hk] at c0 hW1⊢
 have hwq:=x.wt_eq
 have HT:=Lib.hid (And.intro t1 (And.intro (hr.touch0 t1) (And.intro hn (And.intro hf (And.intro hwq (And.intro H (And.intro hwt (And.intro (h.touch0 t1) hk))))))))
 obtain ⟨m,hm⟩: ∃m,x.wt=m:=⟨_,rfl⟩
 have HM:=Lib.hid hm
 have s0:(x.s.size:Int)≤10000000:=by omega
 have s1:(x.t.size:Int)≤10000000:=by omega
 rw [hm]
 clear hgoal t1 r1 h hr e hf hc hn hk hwq H hwt hm
 by_cases hl:n=3
 ·subst hl
  obtain ⟨y0,hy0⟩: ∃y,x.l[0]? =some y:=⟨_,List.getElem?_eq_getElem (by have:=HT.out.2.2.1;omega)⟩
  obtain ⟨y1,hy1⟩: ∃y,x.l[1]? =some y:=⟨_,List.getElem?_eq_getElem (by have:=HT.out.2.2.1;omega)⟩
  obtain ⟨y2,hy2⟩: ∃y,x.l[2]? =some y:=⟨_,List.getElem?_eq_getElem (by have:=HT.out.2.2.1;omega)⟩
  obtain ⟨g2,off2,ua0,uc0,rfl,_,_,p00,p01,p02,p03,p04,p05,hnd0⟩:=HT.out.2.1.at hy0
  obtain ⟨g2',off2',ua1,uc1,e',_,_,p10,p11,p12,p13,p14,p15,hnd1⟩:=HT.out.2.1.at hy1
  obtain ⟨rfl,rfl⟩:g2=g2'∧off2=off2':=by cases e';exact ⟨rfl,rfl⟩
  clear e'
  obtain ⟨g2',off2',ua2,uc2,e',_,_,p20,p21,p22,p23,p24,p25,hnd2⟩:=HT.out.2.1.at hy2
  obtain ⟨rfl,rfl⟩:g2=g2'∧off2=off2':=by cases e';exact ⟨rfl,rfl⟩
  clear e'
  have p00:W1.cell? ⟨g2,off2,none⟩=some (.int .i64 y0.kind):=by simpa using p00
  have p01:W1.cell? ⟨g2,off2+1,none⟩=some (.int .i64 y0.op):=by simpa using p01
  have p02:W1.cell? ⟨g2,off2+2,none⟩=some (.string y0.s):=by simpa using p02
  have p03:W1.cell? ⟨g2,off2+3,none⟩=some (.string y0.t):=by simpa using p03
  have p04:W1.cell? ⟨g2,off2+4,none⟩=some (.int .i64 y0.n):=by simpa using p04
  have p05:W1.cell? ⟨g2,off2+5,none⟩=some (.slice ua0 y0.l.length uc0):=by simpa using p05
  have p10:W1.cell? ⟨g2,off2+6,none⟩=some (.int .i64 y1.kind):=by simpa using p10
  have p11:W1.cell? ⟨g2,off2+6+1,none⟩=some (.int .i64 y1.op):=by simpa using p11
  have p12:W1.cell? ⟨g2,off2+6+2,none⟩=some (.string y1.s):=by simpa using p12
  have p13:W1.cell? ⟨g2,off2+6+3,none⟩=some (.string y1.t):=by simpa using p13
  have p14:W1.cell? ⟨g2,off2+6+4,none⟩=some (.int .i64 y1.n):=by simpa using p14
  have p15:W1.cell? ⟨g2,off2+6+5,none⟩=some (.slice ua1 y1.l.length uc1):=by simpa using p15
  have p20:W1.cell? ⟨g2,off2+12,none⟩=some (.int .i64 y2.kind):=by simpa using p20
  have p21:W1.cell? ⟨g2,off2+12+1,none⟩=some (.int .i64 y2.op):=by simpa using p21
  have p22:W1.cell? ⟨g2,off2+12+2,none⟩=some (.string y2.s):=by simpa using p22
  have p23:W1.cell? ⟨g2,off2+12+3,none⟩=some (.string y2.t):=by simpa using p23
  have p24:W1.cell? ⟨g2,off2+12+4,none⟩=some (.int .i64 y2.n):=by simpa using p24
  have p25:W1.cell? ⟨g2,off2+12+5,none⟩=some (.slice ua2 y2.l.length uc2):=by simpa using p25
  have q0:=Nod.wtL_take hy0
  have q1:=Nod.wtL_take hy1
  have q2:=Nod.wtL_take hy2
  have q9:= @Nod.wtL_take_le x.l 3
  have qq0:Nod.wtL (x.l.take 0)=0:=by rw [List.take_zero,Nod.wtL_nil]
  have qr0:Nod.wtL (x.l.take (0+1))=Nod.wtL (x.l.take 1):=rfl
  have qr1:Nod.wtL (x.l.take (1+1))=Nod.wtL (x.l.take 2):=rfl
  have qr2:Nod.wtL (x.l.take (2+1))=Nod.wtL (x.l.take 3):=rfl
  have hw0:y0.wt≤10000000:=by have:=HT.out.2.2.2.2.1;have:=HT.out.2.2.2.2.2.2.1;omega
  have hw1:y1.wt≤10000000:=by have:=HT.out.2.2.2.2.1;have:=HT.out.2.2.2.2.2.2.1;omega
  have hw2:y2.wt≤10000000:=by have:=HT.out.2.2.2.2.1;have:=HT.out.2.2.2.2.2.2.1;omega
  have HC0:=Lib.hid fun W (T:Ux.Touch (fun _=>False) W1 W) (L:Int)=>HT.out.2.2.2.2.2.1 y0 (List.mem_of_getElem? hy0) A W _ L (hnd0.touch0 T) hw0
  have HC1:=Lib.hid fun W (T:Ux.Touch (fun _=>False) W1 W) (L:Int)=>HT.out.2.2.2.2.2.1 y1 (List.mem_of_getElem? hy1) A W _ L (hnd1.touch0 T) hw1
  have HC2:=Lib.hid fun W (T:Ux.Touch (fun _=>False) W1 W) (L:Int)=>HT.out.2.2.2.2.2.1 y2 (List.mem_of_getElem? hy2) A W _ L (hnd2.touch0 T) hw2
  obtain ⟨m0,hm0⟩: ∃m,y0.wt=m:=⟨_,rfl⟩
  have mm0:(m0:Int)≤10000000:=by omega
  obtain ⟨m1,hm1⟩: ∃m,y1.wt=m:=⟨_,rfl⟩
  have mm1:(m1:Int)≤10000000:=by omega
  obtain ⟨m2,hm2⟩: ∃m,y2.wt=m:=⟨_,rfl⟩
  have mm2:(m2:Int)≤10000000:=by omega
  rw [hm0] at HC0 q0
  rw [hm1] at HC1 q1
  rw [hm2] at HC2 q2
  have HW:Hid ((m0+20)+(m1+20)+(m2+20)≤Nod.wtL x.l):=Lib.hid (by omega)
  have HS:=Lib.hid fun W (T:Ux.Touch (fun _=>False) W1 W)=>And.intro (T.cell c0 (fun f=>f)) (And.intro (T.cell c1 (fun f=>f)) (And.intro (T.cell c2 (fun f=>f)) (And.intro (T.cell c3 (fun f=>f)) (And.intro (T.cell c4 (fun f=>f)) (And.intro (T.cell c5 (fun f=>f)) (And.intro (T.cell p00 (fun f=>f)) (And.intro (T.cell p01 (fun f=>f)) (And.intro (T.cell p02 (fun f=>f)) (And.intro (T.cell p03 (fun f=>f)) (And.intro (T.cell p04 (fun f=>f)) (And.intro (T.cell p05 (fun f=>f)) (And.intro (T.cell p10 (fun f=>f)) (And.intro (T.cell p11 (fun f=>f)) (And.intro (T.cell p12 (fun f=>f)) (And.intro (T.cell p13 (fun f=>f)) (And.intro (T.cell p14 (fun f=>f)) (And.intro (T.cell p15 (fun f=>f)) (And.intro (T.cell p20 (fun f=>f)) (And.intro (T.cell p21 (fun f=>f)) (And.intro (T.cell p22 (fun f=>f)) (And.intro (T.cell p23 (fun f=>f)) (And.intro (T.cell p24 (fun f=>f)) (T.cell p25 (fun f=>f))))))))))))))))))))))))
  clear hy0 hnd0 hw0 hm0 q0 qr0 hy1 hnd1 hw1 hm1 q1 qr1 hy2 hnd2 hw2 hm2 q2 qr2 q9 qq0
  go_enter Try.func16,Try.ntmps16
  go_upto_region 19 with (fail)
  clear hW1 hb1
  obtain ⟨wk,hwk⟩: ∃W,W1.drew=W:=⟨_,rfl⟩
  have Tk:=Lib.hid (show Ux.Touch (fun _=>False) W1 wk by rw [←hwk];exact (Ux.Touch.refl _ _).drew)
  refine Ux.wpr (fun _ w'=>w'.cell? ⟨b1,0,none⟩=some (.int .i64 10)∧w'.cell? ⟨b1,1,none⟩=some (.int .i64 x.op)∧w'.cell? ⟨b1,2,none⟩=some (.string x.s)∧w'.cell? ⟨b1,3,none⟩=some (.string x.t)∧w'.cell? ⟨b1,4,none⟩=some (.int .i64 x.n)∧w'.cell? ⟨b1,5,none⟩=some (.slice (some ⟨g2,off2,none⟩) 3 c)∧w'.cell? ⟨g2,off2,none⟩=some (.int .i64 y0.kind)∧w'.cell? ⟨g2,off2+1,none⟩=some (.int .i64 y0.op)∧w'.cell? ⟨g2,off2+2,none⟩=some (.string y0.s)∧w'.cell? ⟨g2,off2+3,none⟩=some (.string y0.t)∧w'.cell? ⟨g2,off2+4,none⟩=some (.int .i64 y0.n)∧w'.cell? ⟨g2,off2+5,none⟩=some (.slice ua0 y0.l.length uc0)∧w'.cell? ⟨g2,off2+6,none⟩=some (.int .i64 y1.kind)∧w'.cell? ⟨g2,off2+6+1,none⟩=some (.int .i64 y1.op)∧w'.cell? ⟨g2,off2+6+2,none⟩=some (.string y1.s)∧w'.cell? ⟨g2,off2+6+3,none⟩=some (.string y1.t)∧w'.cell? ⟨g2,off2+6+4,none⟩=some (.int .i64 y1.n)∧w'.cell? ⟨g2,off2+6+5,none⟩=some (.slice ua1 y1.l.length uc1)∧w'.cell? ⟨g2,off2+12,none⟩=some (.int .i64 y2.kind)∧w'.cell? ⟨g2,off2+12+1,none⟩=some (.int .i64 y2.op)∧w'.cell? ⟨g2,off2+12+2,none⟩=some (.string y2.s)∧w'.cell? ⟨g2,off2+12+3,none⟩=some (.string y2.t)∧w'.cell? ⟨g2,off2+12+4,none⟩=some (.int .i64 y2.n)∧w'.cell? ⟨g2,off2+12+5,none⟩=some (.slice ua2 y2.l.length uc2)) (.q [0,10,17] (.h false [1,6,11,18] (.q [2,12,19] (.h false [3,13,20] (.e 4 true false (.q [5] (.e 7 true false (.q [8,9] (.e 14 true false (.q [15,16] (.e 21 true false (.q [22] (.line [23]))))))))))))) ?_;repeat ((with_reducible refine Ux.qg ?_);refine Ux.qu ?_)
  go_wp2_with (go_at_call 22;fail)
  have hcw:=HC0.out wk Tk.out (5)
  unfold nodV at hcw
  refine hcw.mono ?_
  clear hcw
  rintro e wn ⟨t0,rfl,ht,Tn⟩
  have z0:(t0.size:Int)≤m0+4:=by omega
  have HZ0:=Lib.hid ht
  have Tk:=Lib.hid (Tk.out.trans Tn fun _ _ f=>f.elim)
  clear ht Tn
  go_wp2_with (fail)
  obtain ⟨wk,rfl⟩: ∃W,W=wn:=⟨_,rfl⟩
  refine ⟨HS.out _ Tk.out,?_⟩
  repeat ((with_reducible refine Ux.qg ?_);refine Ux.qu ?_)
  go_wp2_with (go_at_call 24;fail)
  have hcw:=not_ x A wk _ (HT.out.2.2.2.2.2.2.2.1.touch0 Tk.out)
  unfold nodV at hcw
  rw [HT.out.2.2.1,HT.out.2.2.2.2.2.2.2.2] at hcw
  refine hcw.mono ?_
  clear hcw
  rintro e wn ⟨tn,rfl,ht,Tn⟩
  have zn:(tn.size:Int)≤4:=by omega
  have HZn:=Lib.hid ht
  have Tk:=Lib.hid (Tk.out.trans Tn fun _ _ f=>f.elim)
  clear ht Tn
  go_wp2_with (fail)
  obtain ⟨wk,rfl⟩: ∃W,W=wn:=⟨_,rfl⟩
  refine ⟨HS.out _ Tk.out,?_⟩
  repeat ((with_reducible refine Ux.qg ?_);refine Ux.qu ?_)
  go_wp2_with (go_at_call 22;fail)
  have hcw:=HC1.out wk Tk.out (5)
  unfold nodV at hcw
  refine hcw.mono ?_
  clear hcw
  rintro e wn ⟨t1,rfl,ht,Tn⟩
  have z1:(t1.size:Int)≤m1+4:=by omega
  have HZ1:=Lib.hid ht
  have Tk:=Lib.hid (Tk.out.trans Tn fun _ _ f=>f.elim)
  clear ht Tn
  go_wp2_with (fail)
  obtain ⟨wk,rfl⟩: ∃W,W=wn:=⟨_,rfl⟩
  refine ⟨HS.out _ Tk.out,?_⟩
  repeat ((with_reducible refine Ux.qg ?_);refine Ux.qu ?_)
  go_wp2_with (go_at_call 22;fail)
  have hcw:=HC2.out wk Tk.out (5)
  unfold nodV at hcw
  refine hcw.mono ?_
  clear hcw
  rintro e wn ⟨t2,rfl,ht,Tn⟩
  have z2:(t2.size:Int)≤m2+4:=by omega
  have HZ2:=Lib.hid ht
  have Tk:=Lib.hid (Tk.out.trans Tn fun _ _ f=>f.elim)
  clear ht Tn
  go_wp2_with (fail)
  obtain ⟨wk,rfl⟩: ∃W,W=wn:=⟨_,rfl⟩
  refine ⟨HS.out _ Tk.out,?_⟩
  repeat ((with_reducible refine Ux.qg ?_);refine Ux.qu ?_)
  go_wp2_with (fail)
  go_returns
  exact ⟨_,rfl,(by have h1:=HT.out.2.2.2.2.1;have h2:=HM.out;have h3:=HW.out;have hz0:=HZ0.out;have hzn:=HZn.out;have hz1:=HZ1.out;have hz2:=HZ2.out;first|omega|(simp only [ByteArray.size_append,litSz10,List.size_toArray,List.length_cons,List.length_nil];omega)),HT.out.1.trans Tk.out fun _ _ f=>f.elim⟩
 ·have k3:((n:Int)==3)=false:=beq_false_of_ne (by omega)
  clear hl
  go_enter Try.func16,Try.ntmps16
  go_wp2_with (fail)
  go_returns
  exact ⟨_,rfl,(by have h1:=HT.out.2.2.2.2.1;have h2:=HM.out;first|omega|(simp only [ByteArray.size_append,litSz10,List.size_toArray,List.length_cons,List.length_nil];omega)),HT.out.1⟩
end Go.Proofs.Ytmonfaepfbpdpaa
namespace Go.Proofs.Ytmonfaepfbpdpaa
open Go.RowKit
open Ux (i64B ND NRows nodV Nod)
theorem litSz11 (d:Array UInt8):(ByteArray.mk d).size=d.size:=rfl
set_option maxHeartbeats 8000000 in
set_option maxRecDepth 100000 in
theorem words11_ (x:Nod) (H: ∀y∈x.l,AtC y) (hk:x.kind=11) (A:Nat→Prop) (w:World) (u:Value) (h:ND w A x (nodV x u)) (hwt:x.wt≤10000000):Calls Try.prog 16 #[nodV x u] w fun e w'=>StrR x.wt w w' e:=by
 obtain ⟨v,e,hf,hr⟩:=h.open
 obtain ⟨a,c,rfl,hc⟩:=hr.is
 obtain rfl:u= .slice a x.l.length c:=by unfold nodV at e;simpa using e
 obtain ⟨n,hn⟩: ∃n,x.l.length=n:=⟨_,rfl⟩
 have n0:(n:Int)≤140737488355328:=by have:=hf.2.2.2.2.2;omega
 have n1:(n:Int)≤c:=by omega
 obtain ⟨W1,hW1⟩: ∃W,w.alloc (.cells #[.int .i64 x.kind,.int .i64 x.op,.string x.s,.string x.t,.int .i64 x.n,.slice a n c] 24)=W:=⟨_,rfl⟩
 obtain ⟨b1,hb1⟩: ∃b,w.heap.size=b:=⟨_,rfl⟩
 have t1:Ux.Touch (fun _=>False) w W1:=by rw [←hW1];exact (Ux.Touch.refl _ _).alloc _
 have r1:W1.heap[b1]? =some (.cells #[.int .i64 x.kind,.int .i64 x.op,.string x.s,.string x.t,.int .i64 x.n,.slice a n c] 24 (0,0)):=by rw [←hW1,←hb1];exact heap_alloc_new w _
 have c0:=cell_of_row W1 b1 0 _ _ (0,0) r1
 have c1:=cell_of_row W1 b1 1 _ _ (0,0) r1
 have c2:=cell_of_row W1 b1 2 _ _ (0,0) r1
 have c3:=cell_of_row W1 b1 3 _ _ (0,0) r1
 have c4:=cell_of_row W1 b1 4 _ _ (0,0) r1
 have c5:=cell_of_row W1 b1 5 _ _ (0,0) r1
 simp at c0 c1 c2 c3 c4 c5
 have hgoal:nodV x (.slice a x.l.length c)= .agg #[.int .i64 x.kind,.int .i64 x.op,.string x.s,.string x.t,.int .i64 x.n,.slice a n c]:=by rw [hn];rfl
 rw [hgoal]
 rw [hk] at c0 hW1⊢
 have hwq:=x.wt_eq
 have HT:=Lib.hid (And.intro t1 (And.intro (hr.touch0 t1) (And.intro hn (And.intro hf (And.intro hwq (And.intro H (And.intro hwt (And.intro (h.touch0 t1) hk))))))))
 obtain ⟨m,hm⟩: ∃m,x.wt=m:=⟨_,rfl⟩
 have HM:=Lib.hid hm
 have s0:(x.s.size:Int)≤10000000:=by omega
 have s1:(x.t.size:Int)≤10000000:=by omega
 rw [hm]
 clear hgoal t1 r1 h hr e hf hc hn hk hwq H hwt hm
 by_cases hl:n=1
 ·subst hl
  obtain ⟨y0,hy0⟩: ∃y,x.l[0]? =some y:=⟨_,List.getElem?_eq_getElem (by have:=HT.out.2.2.1;omega)⟩
  obtain ⟨g2,off2,ua0,uc0,rfl,_,_,p00,p01,p02,p03,p04,p05,hnd0⟩:=HT.out.2.1.at hy0
  have p00:W1.cell? ⟨g2,off2,none⟩=some (.int .i64 y0.kind):=by simpa using p00
  have p01:W1.cell? ⟨g2,off2+1,none⟩=some (.int .i64 y0.op):=by simpa using p01
  have p02:W1.cell? ⟨g2,off2+2,none⟩=some (.string y0.s):=by simpa using p02
  have p03:W1.cell? ⟨g2,off2+3,none⟩=some (.string y0.t):=by simpa using p03
  have p04:W1.cell? ⟨g2,off2+4,none⟩=some (.int .i64 y0.n):=by simpa using p04
  have p05:W1.cell? ⟨g2,off2+5,none⟩=some (.slice ua0 y0.l.length uc0):=by simpa using p05
  have q0:=Nod.wtL_take hy0
  have q9:= @Nod.wtL_take_le x.l 1
  have qq0:Nod.wtL (x.l.take 0)=0:=by rw [List.take_zero,Nod.wtL_nil]
  have qr0:Nod.wtL (x.l.take (0+1))=Nod.wtL (x.l.take 1):=rfl
  have hw0:y0.wt≤10000000:=by have:=HT.out.2.2.2.2.1;have:=HT.out.2.2.2.2.2.2.1;omega
  have HC0:=Lib.hid fun W (T:Ux.Touch (fun _=>False) W1 W) (L:Int)=>HT.out.2.2.2.2.2.1 y0 (List.mem_of_getElem? hy0) A W _ L (hnd0.touch0 T) hw0
  obtain ⟨m0,hm0⟩: ∃m,y0.wt=m:=⟨_,rfl⟩
  have mm0:(m0:Int)≤10000000:=by omega
  rw [hm0] at HC0 q0
  have HW:Hid ((m0+20)≤Nod.wtL x.l):=Lib.hid (by omega)
  have HS:=Lib.hid fun W (T:Ux.Touch (fun _=>False) W1 W)=>And.intro (T.cell c0 (fun f=>f)) (And.intro (T.cell c1 (fun f=>f)) (And.intro (T.cell c2 (fun f=>f)) (And.intro (T.cell c3 (fun f=>f)) (And.intro (T.cell c4 (fun f=>f)) (And.intro (T.cell c5 (fun f=>f)) (And.intro (T.cell p00 (fun f=>f)) (And.intro (T.cell p01 (fun f=>f)) (And.intro (T.cell p02 (fun f=>f)) (And.intro (T.cell p03 (fun f=>f)) (And.intro (T.cell p04 (fun f=>f)) (T.cell p05 (fun f=>f))))))))))))
  clear hy0 hnd0 hw0 hm0 q0 qr0 q9 qq0
  go_enter Try.func16,Try.ntmps16
  go_upto_region 21 with (fail)
  clear hW1 hb1
  obtain ⟨wk,hwk⟩: ∃W,W1.drew=W:=⟨_,rfl⟩
  have Tk:=Lib.hid (show Ux.Touch (fun _=>False) W1 wk by rw [←hwk];exact (Ux.Touch.refl _ _).drew)
  refine Ux.wpr (fun _ w'=>w'.cell? ⟨b1,0,none⟩=some (.int .i64 11)∧w'.cell? ⟨b1,1,none⟩=some (.int .i64 x.op)∧w'.cell? ⟨b1,2,none⟩=some (.string x.s)∧w'.cell? ⟨b1,3,none⟩=some (.string x.t)∧w'.cell? ⟨b1,4,none⟩=some (.int .i64 x.n)∧w'.cell? ⟨b1,5,none⟩=some (.slice (some ⟨g2,off2,none⟩) 1 c)∧w'.cell? ⟨g2,off2,none⟩=some (.int .i64 y0.kind)∧w'.cell? ⟨g2,off2+1,none⟩=some (.int .i64 y0.op)∧w'.cell? ⟨g2,off2+2,none⟩=some (.string y0.s)∧w'.cell? ⟨g2,off2+3,none⟩=some (.string y0.t)∧w'.cell? ⟨g2,off2+4,none⟩=some (.int .i64 y0.n)∧w'.cell? ⟨g2,off2+5,none⟩=some (.slice ua0 y0.l.length uc0)) (.q [0,6] (.h false [1,7] (.q [2] (.h false [3] (.e 4 true false (.q [5,8] (.line [9]))))))) ?_;repeat ((with_reducible refine Ux.qg ?_);refine Ux.qu ?_)
  go_wp2_with (go_at_call 22;fail)
  have hcw:=HC0.out wk Tk.out (11)
  unfold nodV at hcw
  refine hcw.mono ?_
  clear hcw
  rintro e wn ⟨t0,rfl,ht,Tn⟩
  have z0:(t0.size:Int)≤m0+4:=by omega
  have HZ0:=Lib.hid ht
  have Tk:=Lib.hid (Tk.out.trans Tn fun _ _ f=>f.elim)
  clear ht Tn
  go_wp2_with (fail)
  obtain ⟨wk,rfl⟩: ∃W,W=wn:=⟨_,rfl⟩
  refine ⟨HS.out _ Tk.out,?_⟩
  repeat ((with_reducible refine Ux.qg ?_);refine Ux.qu ?_)
  go_wp2_with (fail)
  go_returns
  exact ⟨_,rfl,(by have h1:=HT.out.2.2.2.2.1;have h2:=HM.out;have h3:=HW.out;have hz0:=HZ0.out;first|omega|(simp only [ByteArray.size_append,litSz11,List.size_toArray,List.length_cons,List.length_nil];omega)),HT.out.1.trans Tk.out fun _ _ f=>f.elim⟩
 ·have k1:((n:Int)==1)=false:=beq_false_of_ne (by omega)
  clear hl
  go_enter Try.func16,Try.ntmps16
  go_wp2_with (fail)
  go_returns
  exact ⟨_,rfl,(by have h1:=HT.out.2.2.2.2.1;have h2:=HM.out;first|omega|(simp only [ByteArray.size_append,litSz11,List.size_toArray,List.length_cons,List.length_nil];omega)),HT.out.1⟩
end Go.Proofs.Ytmonfaepfbpdpaa
namespace Go.Proofs.Ytmonfaepfbpdpaa
open Go.RowKit
open Ux (i64B ND NRows nodV Nod)
theorem litSz13 (d:Array UInt8):(ByteArray.mk d).size=d.size:=rfl
set_option maxHeartbeats 8000000 in
set_option maxRecDepth 100000 in
theorem words13_ (x:Nod) (H: ∀y∈x.l,AtC y) (hk:x.kind=13) (A:Nat→Prop) (w:World) (u:Value) (h:ND w A x (nodV x u)) (hwt:x.wt≤10000000):Calls Try.prog 16 #[nodV x u] w fun e w'=>StrR x.wt w w' e:=by
 obtain ⟨v,e,hf,hr⟩:=h.open
 obtain ⟨a,c,rfl,hc⟩:=hr.is
 obtain rfl:u= .slice a x.l.length c:=by unfold nodV at e;simpa using e
 obtain ⟨n,hn⟩: ∃n,x.l.length=n:=⟨_,rfl⟩
 have n0:(n:Int)≤140737488355328:=by have:=hf.2.2.2.2.2;omega
 have n1:(n:Int)≤c:=by omega
 obtain ⟨W1,hW1⟩: ∃W,w.alloc (.cells #[.int .i64 x.kind,.int .i64 x.op,.string x.s,.string x.t,.int .i64 x.n,.slice a n c] 24)=W:=⟨_,rfl⟩
 obtain ⟨b1,hb1⟩: ∃b,w.heap.size=b:=⟨_,rfl⟩
 have t1:Ux.Touch (fun _=>False) w W1:=by rw [←hW1];exact (Ux.Touch.refl _ _).alloc _
 have r1:W1.heap[b1]? =some (.cells #[.int .i64 x.kind,.int .i64 x.op,.string x.s,.string x.t,.int .i64 x.n,.slice a n c] 24 (0,0)):=by rw [←hW1,←hb1];exact heap_alloc_new w _
 have c0:=cell_of_row W1 b1 0 _ _ (0,0) r1
 have c1:=cell_of_row W1 b1 1 _ _ (0,0) r1
 have c2:=cell_of_row W1 b1 2 _ _ (0,0) r1
 have c3:=cell_of_row W1 b1 3 _ _ (0,0) r1
 have c4:=cell_of_row W1 b1 4 _ _ (0,0) r1
 have c5:=cell_of_row W1 b1 5 _ _ (0,0) r1
 simp at c0 c1 c2 c3 c4 c5
 have hgoal:nodV x (.slice a x.l.length c)= .agg #[.int .i64 x.kind,.int .i64 x.op,.string x.s,.string x.t,.int .i64 x.n,.slice a n c]:=by rw [hn];rfl
 rw [hgoal]
 rw [hk] at c0 hW1⊢
 have hwq:=x.wt_eq
 have HT:=Lib.hid (And.intro t1 (And.intro (hr.touch0 t1) (And.intro hn (And.intro hf (And.intro hwq (And.intro H (And.intro hwt (And.intro (h.touch0 t1) hk))))))))
 obtain ⟨m,hm⟩: ∃m,x.wt=m:=⟨_,rfl⟩
 have HM:=Lib.hid hm
 have s0:(x.s.size:Int)≤10000000:=by omega
 have s1:(x.t.size:Int)≤10000000:=by omega
 rw [hm]
 clear hgoal t1 r1 h hr e hf hc hn hk hwq H hwt hm
 by_cases hl:n=1
 ·subst hl
  obtain ⟨y0,hy0⟩: ∃y,x.l[0]? =some y:=⟨_,List.getElem?_eq_getElem (by have:=HT.out.2.2.1;omega)⟩
  obtain ⟨g2,off2,ua0,uc0,rfl,_,_,p00,p01,p02,p03,p04,p05,hnd0⟩:=HT.out.2.1.at hy0
  have p00:W1.cell? ⟨g2,off2,none⟩=some (.int .i64 y0.kind):=by simpa using p00
  have p01:W1.cell? ⟨g2,off2+1,none⟩=some (.int .i64 y0.op):=by simpa using p01
  have p02:W1.cell? ⟨g2,off2+2,none⟩=some (.string y0.s):=by simpa using p02
  have p03:W1.cell? ⟨g2,off2+3,none⟩=some (.string y0.t):=by simpa using p03
  have p04:W1.cell? ⟨g2,off2+4,none⟩=some (.int .i64 y0.n):=by simpa using p04
  have p05:W1.cell? ⟨g2,off2+5,none⟩=some (.slice ua0 y0.l.length uc0):=by simpa using p05
  have q0:=Nod.wtL_take hy0
  have q9:= @Nod.wtL_take_le x.l 1
  have qq0:Nod.wtL (x.l.take 0)=0:=by rw [List.take_zero,Nod.wtL_nil]
  have qr0:Nod.wtL (x.l.take (0+1))=Nod.wtL (x.l.take 1):=rfl
  have hw0:y0.wt≤10000000:=by have:=HT.out.2.2.2.2.1;have:=HT.out.2.2.2.2.2.2.1;omega
  have HC0:=Lib.hid fun W (T:Ux.Touch (fun _=>False) W1 W) (L:Int)=>HT.out.2.2.2.2.2.1 y0 (List.mem_of_getElem? hy0) A W _ L (hnd0.touch0 T) hw0
  obtain ⟨m0,hm0⟩: ∃m,y0.wt=m:=⟨_,rfl⟩
  have mm0:(m0:Int)≤10000000:=by omega
  rw [hm0] at HC0 q0
  have HW:Hid ((m0+20)≤Nod.wtL x.l):=Lib.hid (by omega)
  have HS:=Lib.hid fun W (T:Ux.Touch (fun _=>False) W1 W)=>And.intro (T.cell c0 (fun f=>f)) (And.intro (T.cell c1 (fun f=>f)) (And.intro (T.cell c2 (fun f=>f)) (And.intro (T.cell c3 (fun f=>f)) (And.intro (T.cell c4 (fun f=>f)) (And.intro (T.cell c5 (fun f=>f)) (And.intro (T.cell p00 (fun f=>f)) (And.intro (T.cell p01 (fun f=>f)) (And.intro (T.cell p02 (fun f=>f)) (And.intro (T.cell p03 (fun f=>f)) (And.intro (T.cell p04 (fun f=>f)) (T.cell p05 (fun f=>f))))))))))))
  clear hy0 hnd0 hw0 hm0 q0 qr0 q9 qq0
  go_enter Try.func16,Try.ntmps16
  go_upto_region 27 with (fail)
  clear hW1 hb1
  obtain ⟨wk,hwk⟩: ∃W,W1.drew=W:=⟨_,rfl⟩
  have Tk:=Lib.hid (show Ux.Touch (fun _=>False) W1 wk by rw [←hwk];exact (Ux.Touch.refl _ _).drew)
  refine Ux.wpr (fun _ w'=>w'.cell? ⟨b1,0,none⟩=some (.int .i64 13)∧w'.cell? ⟨b1,1,none⟩=some (.int .i64 x.op)∧w'.cell? ⟨b1,2,none⟩=some (.string x.s)∧w'.cell? ⟨b1,3,none⟩=some (.string x.t)∧w'.cell? ⟨b1,4,none⟩=some (.int .i64 x.n)∧w'.cell? ⟨b1,5,none⟩=some (.slice (some ⟨g2,off2,none⟩) 1 c)∧w'.cell? ⟨g2,off2,none⟩=some (.int .i64 y0.kind)∧w'.cell? ⟨g2,off2+1,none⟩=some (.int .i64 y0.op)∧w'.cell? ⟨g2,off2+2,none⟩=some (.string y0.s)∧w'.cell? ⟨g2,off2+3,none⟩=some (.string y0.t)∧w'.cell? ⟨g2,off2+4,none⟩=some (.int .i64 y0.n)∧w'.cell? ⟨g2,off2+5,none⟩=some (.slice ua0 y0.l.length uc0)) (.q [0,3] (.h false [1,4] (.q [2,5] (.h false [6] (.e 7 true false (.q [8,9] (.line [10]))))))) ?_;repeat ((with_reducible refine Ux.qg ?_);refine Ux.qu ?_)
  go_wp2_with (go_at_call 22;fail)
  have hcw:=HC0.out wk Tk.out (1)
  unfold nodV at hcw
  refine hcw.mono ?_
  clear hcw
  rintro e wn ⟨t0,rfl,ht,Tn⟩
  have z0:(t0.size:Int)≤m0+4:=by omega
  have HZ0:=Lib.hid ht
  have Tk:=Lib.hid (Tk.out.trans Tn fun _ _ f=>f.elim)
  clear ht Tn
  go_wp2_with (fail)
  obtain ⟨wk,rfl⟩: ∃W,W=wn:=⟨_,rfl⟩
  refine ⟨HS.out _ Tk.out,?_⟩
  repeat ((with_reducible refine Ux.qg ?_);refine Ux.qu ?_)
  go_wp2_with (fail)
  go_returns
  exact ⟨_,rfl,(by have h1:=HT.out.2.2.2.2.1;have h2:=HM.out;have h3:=HW.out;have hz0:=HZ0.out;first|omega|(simp only [ByteArray.size_append,litSz13,List.size_toArray,List.length_cons,List.length_nil];omega)),HT.out.1.trans Tk.out fun _ _ f=>f.elim⟩
 ·have k1:((n:Int)==1)=false:=beq_false_of_ne (by omega)
  clear hl
  go_enter Try.func16,Try.ntmps16
  go_wp2_with (fail)
  go_returns
  exact ⟨_,rfl,(by have h1:=HT.out.2.2.2.2.1;have h2:=HM.out;first|omega|(simp only [ByteArray.size_append,litSz13,List.size_toArray,List.length_cons,List.length_nil];omega)),HT.out.1⟩
end Go.Proofs.Ytmonfaepfbpdpaa
namespace Go.Proofs.Ytmonfaepfbpdpaa
open Go.RowKit
open Ux (i64B ND NRows nodV Nod)
theorem litSz14 (d:Array UInt8):(ByteArray.mk d).size=d.size:=rfl
set_option maxHeartbeats 8000000 in
set_option maxRecDepth 100000 in
theorem words14_ (x:Nod) (H: ∀y∈x.l,AtC y) (hk:x.kind=14) (A:Nat→Prop) (w:World) (u:Value) (h:ND w A x (nodV x u)) (hwt:x.wt≤10000000):Calls Try.prog 16 #[nodV x u] w fun e w'=>StrR x.wt w w' e:=by
 obtain ⟨v,e,hf,hr⟩:=h.open
 obtain ⟨a,c,rfl,hc⟩:=hr.is
 obtain rfl:u= .slice a x.l.length c:=by unfold nodV at e;simpa using e
 obtain ⟨n,hn⟩: ∃n,x.l.length=n:=⟨_,rfl⟩
 have n0:(n:Int)≤140737488355328:=by have:=hf.2.2.2.2.2;omega
 have n1:(n:Int)≤c:=by omega
 obtain ⟨W1,hW1⟩: ∃W,w.alloc (.cells #[.int .i64 x.kind,.int .i64 x.op,.string x.s,.string x.t,.int .i64 x.n,.slice a n c] 24)=W:=⟨_,rfl⟩
 obtain ⟨b1,hb1⟩: ∃b,w.heap.size=b:=⟨_,rfl⟩
 have t1:Ux.Touch (fun _=>False) w W1:=by rw [←hW1];exact (Ux.Touch.refl _ _).alloc _
 have r1:W1.heap[b1]? =some (.cells #[.int .i64 x.kind,.int .i64 x.op,.string x.s,.string x.t,.int .i64 x.n,.slice a n c] 24 (0,0)):=by rw [←hW1,←hb1];exact heap_alloc_new w _
 have c0:=cell_of_row W1 b1 0 _ _ (0,0) r1
 have c1:=cell_of_row W1 b1 1 _ _ (0,0) r1
 have c2:=cell_of_row W1 b1 2 _ _ (0,0) r1
 have c3:=cell_of_row W1 b1 3 _ _ (0,0) r1
 have c4:=cell_of_row W1 b1 4 _ _ (0,0) r1
 have c5:=cell_of_row W1 b1 5 _ _ (0,0) r1
 simp at c0 c1 c2 c3 c4 c5
 have hgoal:nodV x (.slice a x.l.length c)= .agg #[.int .i64 x.kind,.int .i64 x.op,.string x.s,.string x.t,.int .i64 x.n,.slice a n c]:=by rw [hn];rfl
 rw [hgoal]
 rw [hk] at c0 hW1⊢
 have hwq:=x.wt_eq
 have HT:=Lib.hid (And.intro t1 (And.intro (hr.touch0 t1) (And.intro hn (And.intro hf (And.intro hwq (And.intro H (And.intro hwt (And.intro (h.touch0 t1) hk))))))))
 obtain ⟨m,hm⟩: ∃m,x.wt=m:=⟨_,rfl⟩
 have HM:=Lib.hid hm
 have s0:(x.s.size:Int)≤10000000:=by omega
 have s1:(x.t.size:Int)≤10000000:=by omega
 rw [hm]
 clear hgoal t1 r1 h hr e hf hc hn hk hwq H hwt hm
 by_cases hl:n=0
 ·subst hl
  go_enter Try.func16,Try.ntmps16
  go_wp2_with (fail)
  go_returns
  exact ⟨_,rfl,(by have h1:=HT.out.2.2.2.2.1;have h2:=HM.out;first|omega|(simp only [ByteArray.size_append,litSz14,List.size_toArray,List.length_cons,List.length_nil];omega)),HT.out.1⟩
 ·have k0:((n:Int)==0)=false:=beq_false_of_ne (by omega)
  clear hl
  by_cases hl:n=1
  ·subst hl
   obtain ⟨y0,hy0⟩: ∃y,x.l[0]? =some y:=⟨_,List.getElem?_eq_getElem (by have:=HT.out.2.2.1;omega)⟩
   obtain ⟨g2,off2,ua0,uc0,rfl,_,_,p00,p01,p02,p03,p04,p05,hnd0⟩:=HT.out.2.1.at hy0
   have p00:W1.cell? ⟨g2,off2,none⟩=some (.int .i64 y0.kind):=by simpa using p00
   have p01:W1.cell? ⟨g2,off2+1,none⟩=some (.int .i64 y0.op):=by simpa using p01
   have p02:W1.cell? ⟨g2,off2+2,none⟩=some (.string y0.s):=by simpa using p02
   have p03:W1.cell? ⟨g2,off2+3,none⟩=some (.string y0.t):=by simpa using p03
   have p04:W1.cell? ⟨g2,off2+4,none⟩=some (.int .i64 y0.n):=by simpa using p04
   have p05:W1.cell? ⟨g2,off2+5,none⟩=some (.slice ua0 y0.l.length uc0):=by simpa using p05
   have q0:=Nod.wtL_take hy0
   have q9:= @Nod.wtL_take_le x.l 1
   have qq0:Nod.wtL (x.l.take 0)=0:=by rw [List.take_zero,Nod.wtL_nil]
   have qr0:Nod.wtL (x.l.take (0+1))=Nod.wtL (x.l.take 1):=rfl
   have hw0:y0.wt≤10000000:=by have:=HT.out.2.2.2.2.1;have:=HT.out.2.2.2.2.2.2.1;omega
   have HC0:=Lib.hid fun W (T:Ux.Touch (fun _=>False) W1 W) (L:Int)=>HT.out.2.2.2.2.2.1 y0 (List.mem_of_getElem? hy0) A W _ L (hnd0.touch0 T) hw0
   obtain ⟨m0,hm0⟩: ∃m,y0.wt=m:=⟨_,rfl⟩
   have mm0:(m0:Int)≤10000000:=by omega
   rw [hm0] at HC0 q0
   have HW:Hid ((m0+20)≤Nod.wtL x.l):=Lib.hid (by omega)
   have HS:=Lib.hid fun W (T:Ux.Touch (fun _=>False) W1 W)=>And.intro (T.cell c0 (fun f=>f)) (And.intro (T.cell c1 (fun f=>f)) (And.intro (T.cell c2 (fun f=>f)) (And.intro (T.cell c3 (fun f=>f)) (And.intro (T.cell c4 (fun f=>f)) (And.intro (T.cell c5 (fun f=>f)) (And.intro (T.cell p00 (fun f=>f)) (And.intro (T.cell p01 (fun f=>f)) (And.intro (T.cell p02 (fun f=>f)) (And.intro (T.cell p03 (fun f=>f)) (And.intro (T.cell p04 (fun f=>f)) (T.cell p05 (fun f=>f))))))))))))
   clear hy0 hnd0 hw0 hm0 q0 qr0 q9 qq0
   go_enter Try.func16,Try.ntmps16
   go_upto_region 27 with (fail)
   clear hW1 hb1
   obtain ⟨wk,hwk⟩: ∃W,W1.drew=W:=⟨_,rfl⟩
   have Tk:=Lib.hid (show Ux.Touch (fun _=>False) W1 wk by rw [←hwk];exact (Ux.Touch.refl _ _).drew)
   refine Ux.wpr (fun _ w'=>w'.cell? ⟨b1,0,none⟩=some (.int .i64 14)∧w'.cell? ⟨b1,1,none⟩=some (.int .i64 x.op)∧w'.cell? ⟨b1,2,none⟩=some (.string x.s)∧w'.cell? ⟨b1,3,none⟩=some (.string x.t)∧w'.cell? ⟨b1,4,none⟩=some (.int .i64 x.n)∧w'.cell? ⟨b1,5,none⟩=some (.slice (some ⟨g2,off2,none⟩) 1 c)∧w'.cell? ⟨g2,off2,none⟩=some (.int .i64 y0.kind)∧w'.cell? ⟨g2,off2+1,none⟩=some (.int .i64 y0.op)∧w'.cell? ⟨g2,off2+2,none⟩=some (.string y0.s)∧w'.cell? ⟨g2,off2+3,none⟩=some (.string y0.t)∧w'.cell? ⟨g2,off2+4,none⟩=some (.int .i64 y0.n)∧w'.cell? ⟨g2,off2+5,none⟩=some (.slice ua0 y0.l.length uc0)) (.q [0,3] (.h false [1,4] (.q [2,5] (.h false [6] (.e 7 true false (.q [8,9] (.line [10]))))))) ?_;repeat ((with_reducible refine Ux.qg ?_);refine Ux.qu ?_)
   go_wp2_with (go_at_call 22;fail)
   have hcw:=HC0.out wk Tk.out (1)
   unfold nodV at hcw
   refine hcw.mono ?_
   clear hcw
   rintro e wn ⟨t0,rfl,ht,Tn⟩
   have z0:(t0.size:Int)≤m0+4:=by omega
   have HZ0:=Lib.hid ht
   have Tk:=Lib.hid (Tk.out.trans Tn fun _ _ f=>f.elim)
   clear ht Tn
   go_wp2_with (fail)
   obtain ⟨wk,rfl⟩: ∃W,W=wn:=⟨_,rfl⟩
   refine ⟨HS.out _ Tk.out,?_⟩
   repeat ((with_reducible refine Ux.qg ?_);refine Ux.qu ?_)
   go_wp2_with (fail)
   go_returns
   exact ⟨_,rfl,(by have h1:=HT.out.2.2.2.2.1;have h2:=HM.out;have h3:=HW.out;have hz0:=HZ0.out;first|omega|(simp only [ByteArray.size_append,litSz14,List.size_toArray,List.length_cons,List.length_nil];omega)),HT.out.1.trans Tk.out fun _ _ f=>f.elim⟩
  ·have k1:((n:Int)==1)=false:=beq_false_of_ne (by omega)
   clear hl
   go_enter Try.func16,Try.ntmps16
   go_wp2_with (fail)
   go_returns
   exact ⟨_,rfl,(by have h1:=HT.out.2.2.2.2.1;have h2:=HM.out;first|omega|(simp only [ByteArray.size_append,litSz14,List.size_toArray,List.length_cons,List.length_nil];omega)),HT.out.1⟩
end Go.Proofs.Ytmonfaepfbpdpaa
