/- A part of the proof that the statement holds for every input that it names. No other condition. -/
import Derived.Test.YtmonfaepfbpdpaaWordAZ
set_option linter.unusedVariables false
set_option linter.unusedSimpArgs false
namespace Go.Proofs.Ytmonfaepfbpdpaa
open Go.RowKit
open Ux (i64B ND NRows nodV Nod)
set_option maxHeartbeats 8000000 in
set_option maxRecDepth 100000 in
theorem words0_ (x:Nod) (H: ∀y∈x.l,AtC y) (hk:x.kind=0) (A:Nat→Prop) (w:World) (u:Value) (h:ND w A x (nodV x u)) (hwt:x.wt≤10000000):Calls Try.prog 16 #[nodV x u] w fun e w'=>StrR x.wt w w' e:=by
 obtain ⟨v,e,hf,hr⟩:=h.open
 obtain ⟨a,c,rfl,hc⟩:=hr.is
 obtain rfl:u= .slice a x.l.length c:=by unfold nodV at e;simpa using e
 obtain ⟨n,hn⟩: ∃n,x.l.length=n:=⟨_,rfl⟩
 have n0:(n:Int)≤140737488355328:=by have:=hf.2.2.2.2.2;omega
 have n1:(n:Int)≤c:=by omega
 obtain ⟨W1,hW1⟩: ∃W,w.alloc (.cells #[.int .i64 x.kind,.int .i64 x.op,.string x.s,.string x.t,.int .i64 x.n,.slice a n c] 24)=W:=⟨_,rfl⟩
 obtain ⟨b1,hb1⟩: ∃b,w.heap.size=b:=⟨_,rfl⟩
 have t1:Ux.Touch (fun _=>False) w W1:=by rw [←hW1];exact (Ux.Touch.refl _ _).alloc _
 have r1:W1.heap[b1]? =some (.cells #[.int .i64 x.kind,.int .i64 x.op,.string x.s,.string x.t,.int .i64 x.n,.slice a n c] 24 (0,0)):=by rw [←hW1,←hb1];exact heap_alloc_new w _
 have c0:=cell_of_row W1 b1 0 _ _ (0,0) r1
 have c4:=cell_of_row W1 b1 4 _ _ (0,0) r1
 have c5:=cell_of_row W1 b1 5 _ _ (0,0) r1
 simp at c0 c4 c5
 have hgoal:nodV x (.slice a x.l.length c)= .agg #[.int .i64 x.kind,.int .i64 x.op,.string x.s,.string x.t,.int .i64 x.n,.slice a n c]:=by rw [hn];rfl
 rw [hgoal]
 rw [hk] at c0 hW1⊢
 have hwq:=x.wt_eq
 have HT:=Lib.hid (And.intro t1 (And.intro hr (And.intro hn (And.intro hf (And.intro hwq (And.intro H hwt))))))
 obtain ⟨m,hm⟩: ∃m,x.wt=m:=⟨_,rfl⟩
 have HM:=Lib.hid hm
 rw [hm]
 clear hgoal t1 r1 h hr e hf hc hn hk hwq H hwt hm n0
 go_enter Try.func16,Try.ntmps16
 go_wp2_with (fail)
 go_returns
 exact ⟨_,rfl,by have h1:=HT.out.2.2.2.2.1;have h2:=HM.out;refine Nat.le_trans (?_:_≤10) (by omega);decide,HT.out.1⟩
end Go.Proofs.Ytmonfaepfbpdpaa
namespace Go.Proofs.Ytmonfaepfbpdpaa
open Go.RowKit
open Ux (i64B ND NRows nodV Nod)
theorem litSz1 (d:Array UInt8):(ByteArray.mk d).size=d.size:=rfl
set_option maxHeartbeats 8000000 in
set_option maxRecDepth 100000 in
theorem words1_ (x:Nod) (H: ∀y∈x.l,AtC y) (hk:x.kind=1) (A:Nat→Prop) (w:World) (u:Value) (h:ND w A x (nodV x u)) (hwt:x.wt≤10000000):Calls Try.prog 16 #[nodV x u] w fun e w'=>StrR x.wt w w' e:=by
 obtain ⟨v,e,hf,hr⟩:=h.open
 obtain ⟨a,c,rfl,hc⟩:=hr.is
 obtain rfl:u= .slice a x.l.length c:=by unfold nodV at e;simpa using e
 obtain ⟨n,hn⟩: ∃n,x.l.length=n:=⟨_,rfl⟩
 have n0:(n:Int)≤140737488355328:=by have:=hf.2.2.2.2.2;omega
 have n1:(n:Int)≤c:=by omega
 obtain ⟨W1,hW1⟩: ∃W,w.alloc (.cells #[.int .i64 x.kind,.int .i64 x.op,.string x.s,.string x.t,.int .i64 x.n,.slice a n c] 24)=W:=⟨_,rfl⟩
 obtain ⟨b1,hb1⟩: ∃b,w.heap.size=b:=⟨_,rfl⟩
 have t1:Ux.Touch (fun _=>False) w W1:=by rw [←hW1];exact (Ux.Touch.refl _ _).alloc _
 have r1:W1.heap[b1]? =some (.cells #[.int .i64 x.kind,.int .i64 x.op,.string x.s,.string x.t,.int .i64 x.n,.slice a n c] 24 (0,0)):=by rw [←hW1,←hb1];exact heap_alloc_new w _
 have c0:=cell_of_row W1 b1 0 _ _ (0,0) r1
 have c4:=cell_of_row W1 b1 4 _ _ (0,0) r1
 have c5:=cell_of_row W1 b1 5 _ _ (0,0) r1
 simp at c0 c4 c5
 have hgoal:nodV x (.slice a x.l.length c)= .agg #[.int .i64 x.kind,.int .i64 x.op,.string x.s,.string x.t,.int .i64 x.n,.slice a n c]:=by rw [hn];rfl
 rw [hgoal]
 rw [hk] at c0 hW1⊢
 have hwq:=x.wt_eq
 have HT:=Lib.hid (And.intro t1 (And.intro (hr.touch0 t1) (And.intro hn (And.intro hf (And.intro hwq (And.intro H (And.intro hwt (And.intro (h.touch0 t1) hk))))))))
 obtain ⟨m,hm⟩: ∃m,x.wt=m:=⟨_,rfl⟩
 have HM:=Lib.hid hm
 have s0:(x.s.size:Int)≤10000000:=by omega
 have s1:(x.t.size:Int)≤10000000:=by omega
 rw [hm]
 clear hgoal t1 r1 h hr e hf hc hn hk hwq H hwt hm
 obtain ⟨z,hz⟩: ∃b,(x.n==1)=b:=⟨_,rfl⟩
 cases z
 ·go_enter Try.func16,Try.ntmps16
  go_wp2_with (fail)
  go_returns
  exact ⟨_,rfl,(by have h1:=HT.out.2.2.2.2.1;have h2:=HM.out;simp only [ByteArray.size_append,litSz1,List.size_toArray,List.length_cons,List.length_nil];omega),HT.out.1⟩
 ·go_enter Try.func16,Try.ntmps16
  go_wp2_with (fail)
  go_returns
  exact ⟨_,rfl,(by have h1:=HT.out.2.2.2.2.1;have h2:=HM.out;simp only [ByteArray.size_append,litSz1,List.size_toArray,List.length_cons,List.length_nil];omega),HT.out.1⟩
end Go.Proofs.Ytmonfaepfbpdpaa
namespace Go.Proofs.Ytmonfaepfbpdpaa
open Go.RowKit
open Ux (i64B ND NRows nodV Nod)
set_option maxHeartbeats 8000000 in
set_option maxRecDepth 100000 in
theorem words2_ (x:Nod) (H: ∀y∈x.l,AtC y) (hk:x.kind=2) (A:Nat→Prop) (w:World) (u:Value) (h:ND w A x (nodV x u)) (hwt:x.wt≤10000000):Calls Try.prog 16 #[nodV x u] w fun e w'=>StrR x.wt w w' e:=by
 obtain ⟨v,e,hf,hr⟩:=h.open
 obtain ⟨a,c,rfl,hc⟩:=hr.is
 obtain rfl:u= .slice a x.l.length c:=by unfold nodV at e;simpa using e
 obtain ⟨n,hn⟩: ∃n,x.l.length=n:=⟨_,rfl⟩
 have n0:(n:Int)≤140737488355328:=by have:=hf.2.2.2.2.2;omega
 have n1:(n:Int)≤c:=by omega
 obtain ⟨W1,hW1⟩: ∃W,w.alloc (.cells #[.int .i64 x.kind,.int .i64 x.op,.string x.s,.string x.t,.int .i64 x.n,.slice a n c] 24)=W:=⟨_,rfl⟩
 obtain ⟨b1,hb1⟩: ∃b,w.heap.size=b:=⟨_,rfl⟩
 have t1:Ux.Touch (fun _=>False) w W1:=by rw [←hW1];exact (Ux.Touch.refl _ _).alloc _
 have r1:W1.heap[b1]? =some (.cells #[.int .i64 x.kind,.int .i64 x.op,.string x.s,.string x.t,.int .i64 x.n,.slice a n c] 24 (0,0)):=by rw [←hW1,←hb1];exact heap_alloc_new w _
 have c0:=cell_of_row W1 b1 0 _ _ (0,0) r1
 have c1:=cell_of_row W1 b1 1 _ _ (0,0) r1
 have c2:=cell_of_row W1 b1 2 _ _ (0,0) r1
 have c3:=cell_of_row W1 b1 3 _ _ (0,0) r1
 have c4:=cell_of_row W1 b1 4 _ _ (0,0) r1
 have c5:=cell_of_row W1 b1 5 _ _ (0,0) r1
 simp at c0 c1 c2 c3 c4 c5
 have hgoal:nodV x (.slice a x.l.length c)= .agg #[.int .i64 x.kind,.int .i64 x.op,.string x.s,.string x.t,.int .i64 x.n,.slice a n c]:=by rw [hn];rfl
 rw [hgoal]
 rw [hk] at c0 hW1⊢
 have hwq:=x.wt_eq
 have HT:=Lib.hid (And.intro t1 (And.intro (hr.touch0 t1) (And.intro hn (And.intro hf (And.intro hwq (And.intro H (And.intro hwt (And.intro (h.touch0 t1) hk))))))))
 obtain ⟨m,hm⟩: ∃m,x.wt=m:=⟨_,rfl⟩
 have HM:=Lib.hid hm
 have s0:(x.s.size:Int)≤10000000:=by omega
 have s1:(x.t.size:Int)≤10000000:=by omega
 rw [hm]
 clear hgoal t1 r1 h hr e hf hc hn hk hwq H hwt hm
 have HC:=Lib.hid (textNum_ x.n W1 HT.out.2.2.2.1.2.2.1)
 go_enter Try.func16,Try.ntmps16
 go_wp2_with (go_at_call 26;fail)
 refine HC.out.mono ?_
 rintro e wn ⟨t,rfl,ht,Tn⟩
 have HZ:=Lib.hid (And.intro ht Tn)
 clear ht Tn
 go_wp2_with (fail)
 go_returns
 exact ⟨_,rfl,(by have h1:=HT.out.2.2.2.2.1;have h2:=HM.out;have:=HZ.out.1;omega),HT.out.1.trans HZ.out.2 fun _ _ f=>f.elim⟩
end Go.Proofs.Ytmonfaepfbpdpaa
namespace Go.Proofs.Ytmonfaepfbpdpaa
open Go.RowKit
open Ux (i64B ND NRows nodV Nod)
set_option maxHeartbeats 8000000 in
set_option maxRecDepth 100000 in
theorem words3_ (x:Nod) (H: ∀y∈x.l,AtC y) (hk:x.kind=3) (A:Nat→Prop) (w:World) (u:Value) (h:ND w A x (nodV x u)) (hwt:x.wt≤10000000):Calls Try.prog 16 #[nodV x u] w fun e w'=>StrR x.wt w w' e:=by
 obtain ⟨v,e,hf,hr⟩:=h.open
 obtain ⟨a,c,rfl,hc⟩:=hr.is
 obtain rfl:u= .slice a x.l.length c:=by unfold nodV at e;simpa using e
 obtain ⟨n,hn⟩: ∃n,x.l.length=n:=⟨_,rfl⟩
 have n0:(n:Int)≤140737488355328:=by have:=hf.2.2.2.2.2;omega
 have n1:(n:Int)≤c:=by omega
 obtain ⟨W1,hW1⟩: ∃W,w.alloc (.cells #[.int .i64 x.kind,.int .i64 x.op,.string x.s,.string x.t,.int .i64 x.n,.slice a n c] 24)=W:=⟨_,rfl⟩
 obtain ⟨b1,hb1⟩: ∃b,w.heap.size=b:=⟨_,rfl⟩
 have t1:Ux.Touch (fun _=>False) w W1:=by rw [←hW1];exact (Ux.Touch.refl _ _).alloc _
 have r1:W1.heap[b1]? =some (.cells #[.int .i64 x.kind,.int .i64 x.op,.string x.s,.string x.t,.int .i64 x.n,.slice a n c] 24 (0,0)):=by rw [←hW1,←hb1];exact heap_alloc_new w _
 have c0:=cell_of_row W1 b1 0 _ _ (0,0) r1
 have c1:=cell_of_row W1 b1 1 _ _ (0,0) r1
 have c2:=cell_of_row W1 b1 2 _ _ (0,0) r1
 have c3:=cell_of_row W1 b1 3 _ _ (0,0) r1
 have c4:=cell_of_row W1 b1 4 _ _ (0,0) r1
 have c5:=cell_of_row W1 b1 5 _ _ (0,0) r1
 simp at c0 c1 c2 c3 c4 c5
 have hgoal:nodV x (.slice a x.l.length c)= .agg #[.int .i64 x.kind,.int .i64 x.op,.string x.s,.string x.t,.int .i64 x.n,.slice a n c]:=by rw [hn];rfl
 rw [hgoal]
 rw [hk] at c0 hW1⊢
 have hwq:=x.wt_eq
 have HT:=Lib.hid (And.intro t1 (And.intro (hr.touch0 t1) (And.intro hn (And.intro hf (And.intro hwq (And.intro H (And.intro hwt (And.intro (h.touch0 t1) hk))))))))
 obtain ⟨m,hm⟩: ∃m,x.wt=m:=⟨_,rfl⟩
 have HM:=Lib.hid hm
 have s0:(x.s.size:Int)≤10000000:=by omega
 have s1:(x.t.size:Int)≤10000000:=by omega
 rw [hm]
 clear hgoal t1 r1 h hr e hf hc hn hk hwq H hwt hm
 have HC:=Lib.hid fun W=>And.intro (textV_ x.s W) (print_ x.s W (by omega))
 go_enter Try.func16,Try.ntmps16
 go_wp2_with (go_at_call 28;fail)
 refine (HC.out W1).1.mono ?_
 rintro e w2 ⟨rfl,T2⟩
 have H2:=Lib.hid T2
 clear T2
 unfold textV
 go_wp2_with (go_at_call 27;fail)
 have hcw:=(HC.out w2).2
 unfold textV at hcw
 refine hcw.mono ?_
 clear hcw
 rintro e wn ⟨t,rfl,ht,Tn⟩
 have HZ:=Lib.hid (And.intro ht Tn)
 clear ht Tn
 go_wp2_with (fail)
 go_returns
 exact ⟨_,rfl,(by have h1:=HT.out.2.2.2.2.1;have h2:=HM.out;have:=HZ.out.1;omega),(HT.out.1.trans H2.out fun _ _ f=>f.elim).trans HZ.out.2 fun _ _ f=>f.elim⟩
end Go.Proofs.Ytmonfaepfbpdpaa
namespace Go.Proofs.Ytmonfaepfbpdpaa
open Go.RowKit
open Ux (i64B ND NRows nodV Nod)
theorem litSz4 (d:Array UInt8):(ByteArray.mk d).size=d.size:=rfl
set_option maxHeartbeats 8000000 in
set_option maxRecDepth 100000 in
theorem words4_ (x:Nod) (H: ∀y∈x.l,AtC y) (hk:x.kind=4) (A:Nat→Prop) (w:World) (u:Value) (h:ND w A x (nodV x u)) (hwt:x.wt≤10000000):Calls Try.prog 16 #[nodV x u] w fun e w'=>StrR x.wt w w' e:=by
 obtain ⟨v,e,hf,hr⟩:=h.open
 obtain ⟨a,c,rfl,hc⟩:=hr.is
 obtain rfl:u= .slice a x.l.length c:=by unfold nodV at e;simpa using e
 obtain ⟨n,hn⟩: ∃n,x.l.length=n:=⟨_,rfl⟩
 have n0:(n:Int)≤140737488355328:=by have:=hf.2.2.2.2.2;omega
 have n1:(n:Int)≤c:=by omega
 obtain ⟨W1,hW1⟩: ∃W,w.alloc (.cells #[.int .i64 x.kind,.int .i64 x.op,.string x.s,.string x.t,.int .i64 x.n,.slice a n c] 24)=W:=⟨_,rfl⟩
 obtain ⟨b1,hb1⟩: ∃b,w.heap.size=b:=⟨_,rfl⟩
 have t1:Ux.Touch (fun _=>False) w W1:=by rw [←hW1];exact (Ux.Touch.refl _ _).alloc _
 have r1:W1.heap[b1]? =some (.cells #[.int .i64 x.kind,.int .i64 x.op,.string x.s,.string x.t,.int .i64 x.n,.slice a n c] 24 (0,0)):=by rw [←hW1,←hb1];exact heap_alloc_new w _
 have c0:=cell_of_row W1 b1 0 _ _ (0,0) r1
 have c1:=cell_of_row W1 b1 1 _ _ (0,0) r1
 have c2:=cell_of_row W1 b1 2 _ _ (0,0) r1
 have c3:=cell_of_row W1 b1 3 _ _ (0,0) r1
 have c4:=cell_of_row W1 b1 4 _ _ (0,0) r1
 have c5:=cell_of_row W1 b1 5 _ _ (0,0) r1
 simp at c0 c1 c2 c3 c4 c5
 have hgoal:nodV x (.slice a x.l.length c)= .agg #[.int .i64 x.kind,.int .i64 x.op,.string x.s,.string x.t,.int .i64 x.n,.slice a n c]:=by rw [hn];rfl
 rw [hgoal]
 rw [hk] at c0 hW1⊢
 have hwq:=x.wt_eq
 have HT:=Lib.hid (And.intro t1 (And.intro (hr.touch0 t1) (And.intro hn (And.intro hf (And.intro hwq (And.intro H (And.intro hwt (And.intro (h.touch0 t1) hk))))))))
 obtain ⟨m,hm⟩: ∃m,x.wt=m:=⟨_,rfl⟩
 have HM:=Lib.hid hm
 have s0:(x.s.size:Int)≤10000000:=by omega
 have s1:(x.t.size:Int)≤10000000:=by omega
 rw [hm]
 clear hgoal t1 r1 h hr e hf hc hn hk hwq H hwt hm
 obtain ⟨z,hz⟩: ∃b,x.t.toList.isEmpty=b:=⟨_,rfl⟩
 cases z
 ·go_enter Try.func16,Try.ntmps16
  go_wp2_with (fail)
  go_returns
  exact ⟨_,rfl,(by have h1:=HT.out.2.2.2.2.1;have h2:=HM.out;first|omega|(simp only [ByteArray.size_append,litSz4,List.size_toArray,List.length_cons,List.length_nil];omega)),HT.out.1⟩
 ·go_enter Try.func16,Try.ntmps16
  go_wp2_with (fail)
  go_returns
  exact ⟨_,rfl,(by have h1:=HT.out.2.2.2.2.1;have h2:=HM.out;first|omega|(simp only [ByteArray.size_append,litSz4,List.size_toArray,List.length_cons,List.length_nil];omega)),HT.out.1⟩
end Go.Proofs.Ytmonfaepfbpdpaa
namespace Go.Proofs.Ytmonfaepfbpdpaa
open Go.RowKit
open Ux (i64B ND NRows nodV Nod)
theorem litSz5 (d:Array UInt8):(ByteArray.mk d).size=d.size:=rfl
set_option maxHeartbeats 8000000 in
set_option maxRecDepth 100000 in
theorem words5_ (x:Nod) (H: ∀y∈x.l,AtC y) (hk:x.kind=5) (A:Nat→Prop) (w:World) (u:Value) (h:ND w A x (nodV x u)) (hwt:x.wt≤10000000):Calls Try.prog 16 #[nodV x u] w fun e w'=>StrR x.wt w w' e:=by
 obtain ⟨v,e,hf,hr⟩:=h.open
 obtain ⟨a,c,rfl,hc⟩:=hr.is
 obtain rfl:u= .slice a x.l.length c:=by unfold nodV at e;simpa using e
 obtain ⟨n,hn⟩: ∃n,x.l.length=n:=⟨_,rfl⟩
 have n0:(n:Int)≤140737488355328:=by have:=hf.2.2.2.2.2;omega
 have n1:(n:Int)≤c:=by omega
 obtain ⟨W1,hW1⟩: ∃W,w.alloc (.cells #[.int .i64 x.kind,.int .i64 x.op,.string x.s,.string x.t,.int .i64 x.n,.slice a n c] 24)=W:=⟨_,rfl⟩
 obtain ⟨b1,hb1⟩: ∃b,w.heap.size=b:=⟨_,rfl⟩
 have t1:Ux.Touch (fun _=>False) w W1:=by rw [←hW1];exact (Ux.Touch.refl _ _).alloc _
 have r1:W1.heap[b1]? =some (.cells #[.int .i64 x.kind,.int .i64 x.op,.string x.s,.string x.t,.int .i64 x.n,.slice a n c] 24 (0,0)):=by rw [←hW1,←hb1];exact heap_alloc_new w _
 have c0:=cell_of_row W1 b1 0 _ _ (0,0) r1
 have c1:=cell_of_row W1 b1 1 _ _ (0,0) r1
 have c2:=cell_of_row W1 b1 2 _ _ (0,0) r1
 have c3:=cell_of_row W1 b1 3 _ _ (0,0) r1
 have c4:=cell_of_row W1 b1 4 _ _ (0,0) r1
 have c5:=cell_of_row W1 b1 5 _ _ (0,0) r1
 simp at c0 c1 c2 c3 c4 c5
 have hgoal:nodV x (.slice a x.l.length c)= .agg #[.int .i64 x.kind,.int .i64 x.op,.string x.s,.string x.t,.int .i64 x.n,.slice a n c]:=by rw [hn];rfl
 rw [hgoal]
 rw [hk] at c0 hW1⊢
 have hwq:=x.wt_eq
 have HT:=Lib.hid (And.intro t1 (And.intro (hr.touch0 t1) (And.intro hn (And.intro hf (And.intro hwq (And.intro H (And.intro hwt (And.intro (h.touch0 t1) hk))))))))
 obtain ⟨m,hm⟩: ∃m,x.wt=m:=⟨_,rfl⟩
 have HM:=Lib.hid hm
 have s0:(x.s.size:Int)≤10000000:=by omega
 have s1:(x.t.size:Int)≤10000000:=by omega
 rw [hm]
 clear hgoal t1 r1 h hr e hf hc hn hk hwq H hwt hm
 by_cases hl:n=1
 ·subst hl
  obtain ⟨y0,hy0⟩: ∃y,x.l[0]? =some y:=⟨_,List.getElem?_eq_getElem (by have:=HT.out.2.2.1;omega)⟩
  obtain ⟨g2,off2,ua0,uc0,rfl,_,_,p00,p01,p02,p03,p04,p05,hnd0⟩:=HT.out.2.1.at hy0
  have p00:W1.cell? ⟨g2,off2,none⟩=some (.int .i64 y0.kind):=by simpa using p00
  have p01:W1.cell? ⟨g2,off2+1,none⟩=some (.int .i64 y0.op):=by simpa using p01
  have p02:W1.cell? ⟨g2,off2+2,none⟩=some (.string y0.s):=by simpa using p02
  have p03:W1.cell? ⟨g2,off2+3,none⟩=some (.string y0.t):=by simpa using p03
  have p04:W1.cell? ⟨g2,off2+4,none⟩=some (.int .i64 y0.n):=by simpa using p04
  have p05:W1.cell? ⟨g2,off2+5,none⟩=some (.slice ua0 y0.l.length uc0):=by simpa using p05
  have q0:=Nod.wtL_take hy0
  have q9:= @Nod.wtL_take_le x.l 1
  have qq0:Nod.wtL (x.l.take 0)=0:=by rw [List.take_zero,Nod.wtL_nil]
  have qr0:Nod.wtL (x.l.take (0+1))=Nod.wtL (x.l.take 1):=rfl
  have hw0:y0.wt≤10000000:=by have:=HT.out.2.2.2.2.1;have:=HT.out.2.2.2.2.2.2.1;omega
  have HC0:=Lib.hid fun W (T:Ux.Touch (fun _=>False) W1 W) (L:Int)=>HT.out.2.2.2.2.2.1 y0 (List.mem_of_getElem? hy0) A W _ L (hnd0.touch0 T) hw0
  obtain ⟨m0,hm0⟩: ∃m,y0.wt=m:=⟨_,rfl⟩
  have mm0:(m0:Int)≤10000000:=by omega
  rw [hm0] at HC0 q0
  have HW:Hid ((m0+20)≤Nod.wtL x.l):=Lib.hid (by omega)
  have HS:=Lib.hid fun W (T:Ux.Touch (fun _=>False) W1 W)=>And.intro (T.cell c0 (fun f=>f)) (And.intro (T.cell c1 (fun f=>f)) (And.intro (T.cell c2 (fun f=>f)) (And.intro (T.cell c3 (fun f=>f)) (And.intro (T.cell c4 (fun f=>f)) (And.intro (T.cell c5 (fun f=>f)) (And.intro (T.cell p00 (fun f=>f)) (And.intro (T.cell p01 (fun f=>f)) (And.intro (T.cell p02 (fun f=>f)) (And.intro (T.cell p03 (fun f=>f)) (And.intro (T.cell p04 (fun f=>f)) (T.cell p05 (fun f=>f))))))))))))
  clear hy0 hnd0 hw0 hm0 q0 qr0 q9 qq0
  obtain ⟨z,hz⟩: ∃b,(x.op==21)=b:=⟨_,rfl⟩
  cases z
  ·go_enter Try.func16,Try.ntmps16
   go_wp2_with (go_at_call 22;fail)
   have hcw:=HC0.out W1 (Ux.Touch.refl _ _) 10
   unfold nodV at hcw
   refine hcw.mono ?_
   clear hcw
   rintro e wn ⟨t0,rfl,ht,Tn⟩
   have z0:(t0.size:Int)≤m0+4:=by omega
   have HZ0:=Lib.hid (And.intro ht Tn)
   clear ht Tn
   go_wp2_with (fail)
   go_returns
   exact ⟨_,rfl,(by have h1:=HT.out.2.2.2.2.1;have h2:=HM.out;have h3:=HW.out;have:=HZ0.out.1;first|omega|(simp only [ByteArray.size_append,litSz5,List.size_toArray,List.length_cons,List.length_nil];omega)),HT.out.1.trans HZ0.out.2 fun _ _ f=>f.elim⟩
  ·go_enter Try.func16,Try.ntmps16
   go_wp2_with (go_at_call 22;fail)
   have hcw:=HC0.out W1 (Ux.Touch.refl _ _) 3
   unfold nodV at hcw
   refine hcw.mono ?_
   clear hcw
   rintro e wn ⟨t0,rfl,ht,Tn⟩
   have z0:(t0.size:Int)≤m0+4:=by omega
   have HZ0:=Lib.hid (And.intro ht Tn)
   clear ht Tn
   go_wp2_with (fail)
   go_returns
   exact ⟨_,rfl,(by have h1:=HT.out.2.2.2.2.1;have h2:=HM.out;have h3:=HW.out;have:=HZ0.out.1;first|omega|(simp only [ByteArray.size_append,litSz5,List.size_toArray,List.length_cons,List.length_nil];omega)),HT.out.1.trans HZ0.out.2 fun _ _ f=>f.elim⟩
 ·have k1:((n:Int)==1)=false:=beq_false_of_ne (by omega)
  clear hl
  go_enter Try.func16,Try.ntmps16
  go_wp2_with (fail)
  go_returns
  exact ⟨_,rfl,(by have h1:=HT.out.2.2.2.2.1;have h2:=HM.out;first|omega|(simp only [ByteArray.size_append,litSz5,List.size_toArray,List.length_cons,List.length_nil];omega)),HT.out.1⟩
end Go.Proofs.Ytmonfaepfbpdpaa
namespace Go.Proofs.Ytmonfaepfbpdpaa
open Go.RowKit
open Ux (i64B ND NRows nodV Nod)
theorem litSzX (d:Array UInt8):(ByteArray.mk d).size=d.size:=rfl
set_option maxHeartbeats 8000000 in
set_option maxRecDepth 100000 in
theorem wordsX_ (x:Nod) (H: ∀y∈x.l,AtC y) (kd:Int) (hk:x.kind=kd) (hq0:(kd==0)=false) (hq1:(kd==1)=false) (hq2:(kd==2)=false) (hq3:(kd==3)=false) (hq4:(kd==4)=false) (hq5:(kd==5)=false) (hq6:(kd==6)=false) (hq7:(kd==7)=false) (hq8:(kd==8)=false) (hq9:(kd==9)=false) (hq10:(kd==10)=false) (hq11:(kd==11)=false) (hq12:(kd==12)=false) (hq13:(kd==13)=false) (hq14:(kd==14)=false) (A:Nat→Prop) (w:World) (u:Value) (h:ND w A x (nodV x u)) (hwt:x.wt≤10000000):Calls Try.prog 16 #[nodV x u] w fun e w'=>StrR x.wt w w' e:=by
 obtain ⟨v,e,hf,hr⟩:=h.open
 obtain ⟨a,c,rfl,hc⟩:=hr.is
 obtain rfl:u= .slice a x.l.length c:=by unfold nodV at e;simpa using e
 obtain ⟨n,hn⟩: ∃n,x.l.length=n:=⟨_,rfl⟩
 have n0:(n:Int)≤140737488355328:=by have:=hf.2.2.2.2.2;omega
 have n1:(n:Int)≤c:=by omega
 obtain ⟨W1,hW1⟩: ∃W,w.alloc (.cells #[.int .i64 x.kind,.int .i64 x.op,.string x.s,.string x.t,.int .i64 x.n,.slice a n c] 24)=W:=⟨_,rfl⟩
 obtain ⟨b1,hb1⟩: ∃b,w.heap.size=b:=⟨_,rfl⟩
 have t1:Ux.Touch (fun _=>False) w W1:=by rw [←hW1];exact (Ux.Touch.refl _ _).alloc _
 have r1:W1.heap[b1]? =some (.cells #[.int .i64 x.kind,.int .i64 x.op,.string x.s,.string x.t,.int .i64 x.n,.slice a n c] 24 (0,0)):=by rw [←hW1,←hb1];exact heap_alloc_new w _
 have c0:=cell_of_row W1 b1 0 _ _ (0,0) r1
 have c1:=cell_of_row W1 b1 1 _ _ (0,0) r1
 have c2:=cell_of_row W1 b1 2 _ _ (0,0) r1
 have c3:=cell_of_row W1 b1 3 _ _ (0,0) r1
 have c4:=cell_of_row W1 b1 4 _ _ (0,0) r1
 have c5:=cell_of_row W1 b1 5 _ _ (0,0) r1
 simp at c0 c1 c2 c3 c4 c5
 have hgoal:nodV x (.slice a x.l.length c)= .agg #[.int .i64 x.kind,.int .i64 x.op,.string x.s,.string x.t,.int .i64 x.n,.slice a n c]:=by rw [hn];rfl
 rw [hgoal]
 rw [hk] at c0 hW1⊢
 have hwq:=x.wt_eq
 have HT:=Lib.hid (And.intro t1 (And.intro (hr.touch0 t1) (And.intro hn (And.intro hf (And.intro hwq (And.intro H (And.intro hwt (And.intro (h.touch0 t1) hk))))))))
 obtain ⟨m,hm⟩: ∃m,x.wt=m:=⟨_,rfl⟩
 have HM:=Lib.hid hm
 have s0:(x.s.size:Int)≤10000000:=by omega
 have s1:(x.t.size:Int)≤10000000:=by omega
 rw [hm]
 clear hgoal t1 r1 h hr e hf hc hn hk hwq H hwt hm
 go_enter Try.func16,Try.ntmps16
 go_wp2_with (fail)
 go_returns
 exact ⟨_,rfl,(by have h1:=HT.out.2.2.2.2.1;have h2:=HM.out;first|omega|(simp only [ByteArray.size_append,litSzX,List.size_toArray,List.length_cons,List.length_nil];omega)),HT.out.1⟩
end Go.Proofs.Ytmonfaepfbpdpaa
