/- A part of the proof that the statement holds for every input that it names. No other condition. -/
import Derived.Test.YtmonfaepfbpdpaaUxNodAZ
import Derived.Test.YtmonfaepfbpdpaaUxWtAZ
import Derived.Test.YtmonfaepfbpdpaaRows
import Derived.Handy
import Derived.Laws.EntriesVeiled
import Derived.WalkSpells
import Derived.WalkLawsBesides
import Derived.BigQuiet
import Derived.Deep.Cut
import Derived.Deep.DeepCutAuto
import Derived.Lib.Overlaps
import Derived.Lib.Hide
import Derived.Test.YtmonfaepfbpdpaaUxOrdZ
set_option linter.unusedVariables false
set_option linter.unusedSimpArgs false
namespace Go.Proofs.Ytmonfaepfbpdpaa
open Go.RowKit
open Ux (i64B ND NRows nodV Nod)
def LevR (w w':World) (e:Ending):Prop:= ∃k,e= .returned (.int .i64 k)∧1≤k∧k≤12∧Ux.Touch (fun _=>False) w w'
set_option maxHeartbeats 8000000 in
set_option maxRecDepth 100000 in
theorem level_ (x:Nod) (A:Nat→Prop) (w:World) (u:Value) (h:ND w A x (nodV x u)):Calls Try.prog 21 #[nodV x u] w fun e w'=>LevR w w' e:=by
 obtain ⟨v,e,hf,hr⟩:=h.open
 obtain ⟨a,c,rfl,hc⟩:=hr.is
 obtain rfl:u= .slice a x.l.length c:=by unfold nodV at e;simpa using e
 obtain ⟨n,hn⟩: ∃n,x.l.length=n:=⟨_,rfl⟩
 have n0:(n:Int)≤140737488355328:=by have:=hf.2.2.2.2.2;omega
 have n1:(n:Int)≤c:=by omega
 obtain ⟨W1,hW1⟩: ∃W,w.alloc (.cells #[.int .i64 x.kind,.int .i64 x.op,.string x.s,.string x.t,.int .i64 x.n,.slice a n c] 24)=W:=⟨_,rfl⟩
 obtain ⟨b1,hb1⟩: ∃b,w.heap.size=b:=⟨_,rfl⟩
 have t1:Ux.Touch (fun _=>False) w W1:=by rw [←hW1];exact (Ux.Touch.refl _ _).alloc _
 have r1:W1.heap[b1]? =some (.cells #[.int .i64 x.kind,.int .i64 x.op,.string x.s,.string x.t,.int .i64 x.n,.slice a n c] 24 (0,0)):=by rw [←hW1,←hb1];exact heap_alloc_new w _
 have c0:=cell_of_row W1 b1 0 _ _ (0,0) r1
 have c1:=cell_of_row W1 b1 1 _ _ (0,0) r1
 simp at c0 c1
 have hgoal:nodV x (.slice a x.l.length c)= .agg #[.int .i64 x.kind,.int .i64 x.op,.string x.s,.string x.t,.int .i64 x.n,.slice a n c]:=by rw [hn];rfl
 rw [hgoal]
 have HT:=Lib.hid t1
 obtain ⟨kd,hkd⟩: ∃k,x.kind=k:=⟨_,rfl⟩
 obtain ⟨op,hop⟩: ∃k,x.op=k:=⟨_,rfl⟩
 rw [hkd,hop] at hW1⊢
 rw [hkd] at c0
 rw [hop] at c1
 clear hgoal t1 r1 h hr e hf hc hn n0 n1 hkd hop
 go_enter Try.func21,Try.ntmps21
 go_wp2_with (fail)
 all_goals go_returns
 all_goals exact ⟨_,rfl,by decide,by decide,HT.out⟩
def StrR (m:Nat) (w w':World) (e:Ending):Prop:= ∃t,e= .returned (.string t)∧t.size≤m∧Ux.Touch (fun _=>False) w w'
set_option maxHeartbeats 8000000 in
set_option maxRecDepth 100000 in
theorem not_ (x:Nod) (A:Nat→Prop) (w:World) (u:Value) (h:ND w A x (nodV x u)):Calls Try.prog 24 #[nodV x u] w fun e w'=>StrR 4 w w' e:=by
 obtain ⟨v,e,hf,hr⟩:=h.open
 obtain ⟨a,c,rfl,hc⟩:=hr.is
 obtain rfl:u= .slice a x.l.length c:=by unfold nodV at e;simpa using e
 obtain ⟨n,hn⟩: ∃n,x.l.length=n:=⟨_,rfl⟩
 have n0:(n:Int)≤140737488355328:=by have:=hf.2.2.2.2.2;omega
 have n1:(n:Int)≤c:=by omega
 obtain ⟨W1,hW1⟩: ∃W,w.alloc (.cells #[.int .i64 x.kind,.int .i64 x.op,.string x.s,.string x.t,.int .i64 x.n,.slice a n c] 24)=W:=⟨_,rfl⟩
 obtain ⟨b1,hb1⟩: ∃b,w.heap.size=b:=⟨_,rfl⟩
 have t1:Ux.Touch (fun _=>False) w W1:=by rw [←hW1];exact (Ux.Touch.refl _ _).alloc _
 have r1:W1.heap[b1]? =some (.cells #[.int .i64 x.kind,.int .i64 x.op,.string x.s,.string x.t,.int .i64 x.n,.slice a n c] 24 (0,0)):=by rw [←hW1,←hb1];exact heap_alloc_new w _
 have c4:=cell_of_row W1 b1 4 _ _ (0,0) r1
 simp at c4
 have hgoal:nodV x (.slice a x.l.length c)= .agg #[.int .i64 x.kind,.int .i64 x.op,.string x.s,.string x.t,.int .i64 x.n,.slice a n c]:=by rw [hn];rfl
 rw [hgoal]
 have HT:=Lib.hid t1
 clear hgoal t1 r1 h hr e hf hc hn n0 n1
 obtain ⟨z,hz⟩: ∃b,(x.n==1)=b:=⟨_,rfl⟩
 cases z
 all_goals go_enter Try.func24,Try.ntmps24
 all_goals go_wp2_with (fail)
 all_goals go_returns
 all_goals exact ⟨_,rfl,by decide,HT.out⟩
set_option maxHeartbeats 8000000 in
set_option maxRecDepth 100000 in
theorem opName_ (op:Int) (w:World):Calls Try.prog 23 #[.int .i64 op] w fun e w'=>StrR 3 w w' e:=by
 by_cases h0:op<0
 ·have HT:=Lib.hid (Ux.Touch.refl (fun _=>False) w)
  go_enter Try.func23,Try.ntmps23
  go_wp2_with (fail)
  go_returns
  exact ⟨_,rfl,by decide,HT.out.alloc _⟩
 ·by_cases h1:op≥23
  ·have HT:=Lib.hid (Ux.Touch.refl (fun _=>False) w)
   go_enter Try.func23,Try.ntmps23
   go_wp2_with (fail)
   go_returns
   exact ⟨_,rfl,by decide,HT.out.alloc _⟩
  ·obtain ⟨i,rfl⟩: ∃i:Nat,op=i:=⟨op.toNat,by omega⟩
   have hi:i<23:=by omega
   have i0:(0:Int)≤i:=by omega
   have i1:(i:Int)<23:=by omega
   obtain ⟨g,hg⟩: ∃b,w.heap.size=b:=⟨_,rfl⟩
   obtain ⟨W1,hW1⟩: ∃W,w.alloc (.cells #[.string ⟨#[]⟩,.string ⟨#[61]⟩,.string ⟨#[60,62]⟩,.string ⟨#[60]⟩,.string ⟨#[60,61]⟩,.string ⟨#[62]⟩,.string ⟨#[62,61]⟩,.string ⟨#[43]⟩,.string ⟨#[45]⟩,.string ⟨#[42]⟩,.string ⟨#[47]⟩,.string ⟨#[37]⟩,.string ⟨#[60,60]⟩,.string ⟨#[62,62]⟩,.string ⟨#[38]⟩,.string ⟨#[124]⟩,.string ⟨#[94]⟩,.string ⟨#[124,124]⟩,.string ⟨#[65,78,68]⟩,.string ⟨#[79,82]⟩,.string ⟨#[]⟩,.string ⟨#[]⟩,.string ⟨#[88,79,82]⟩] 9)=W:=⟨_,rfl⟩
   have r1:W1.heap[g]? =some (.cells #[.string ⟨#[]⟩,.string ⟨#[61]⟩,.string ⟨#[60,62]⟩,.string ⟨#[60]⟩,.string ⟨#[60,61]⟩,.string ⟨#[62]⟩,.string ⟨#[62,61]⟩,.string ⟨#[43]⟩,.string ⟨#[45]⟩,.string ⟨#[42]⟩,.string ⟨#[47]⟩,.string ⟨#[37]⟩,.string ⟨#[60,60]⟩,.string ⟨#[62,62]⟩,.string ⟨#[38]⟩,.string ⟨#[124]⟩,.string ⟨#[94]⟩,.string ⟨#[124,124]⟩,.string ⟨#[65,78,68]⟩,.string ⟨#[79,82]⟩,.string ⟨#[]⟩,.string ⟨#[]⟩,.string ⟨#[88,79,82]⟩] 9 (0,0)):=by rw [←hW1,←hg];exact heap_alloc_new w _
   have t1:Ux.Touch (fun _=>False) w W1:=by rw [←hW1];exact (Ux.Touch.refl _ _).alloc _
   have hc: ∃s:ByteArray,W1.cell? ⟨g,i,none⟩=some (.string s)∧s.size≤3:=by
    rw [cell_of_row W1 g i _ _ (0,0) r1]
    have:i=0∨i=1∨i=2∨i=3∨i=4∨i=5∨i=6∨i=7∨i=8∨i=9∨i=10∨i=11∨i=12∨i=13∨i=14∨i=15∨i=16∨i=17∨i=18∨i=19∨i=20∨i=21∨i=22:=by omega
    rcases this with rfl|rfl|rfl|rfl|rfl|rfl|rfl|rfl|rfl|rfl|rfl|rfl|rfl|rfl|rfl|rfl|rfl|rfl|rfl|rfl|rfl|rfl|rfl<;>exact ⟨_,rfl,by decide⟩
   obtain ⟨s,hs,hsz⟩:=hc
   have HT:=Lib.hid (And.intro t1 hsz)
   clear r1 t1 hsz h0 h1 hi
   go_enter Try.func23,Try.ntmps23
   go_wp2_with (fail)
   go_returns
   exact ⟨_,rfl,HT.out.2,HT.out.1⟩
set_option maxHeartbeats 8000000 in
set_option maxRecDepth 100000 in
theorem textNat_ (x:Nat) (w:World) (hx:x≤9223372036854775807):Calls Try.prog 26 #[.int .i64 (x:Int)] w fun e w'=>StrR 19 w w' e:=by
 have x0:(0:Int)≤x:=by omega
 have x1:(x:Int)≤9223372036854775807:=by omega
 have x2:((x:Int)== -9223372036854775808)=false:=beq_false_of_ne (by omega)
 have x3: ¬(x:Int)<0:=by omega
 have HX:=Lib.hid hx
 clear hx
 go_enter Try.func26,Try.ntmps26
 go_wp2_with (fail)
 clear x2 x3
 go_loopg [0,3] 18 (fun gk s0 s3 wr=> ∃(y:Nat) (t:ByteArray),s0= .int .i64 (y:Int)∧s3= .string t∧Hid (y<10^(gk+1)∧y≤9223372036854775807∧t.size+gk≤18)∧wr=w)
 case atStart=>exact ⟨x,⟨#[]⟩,rfl,rfl,Lib.hid ⟨by have:=HX.out;have:9223372036854775807<10^(18+1):=by decide
                                                  omega,HX.out,by show 0+18≤18;omega⟩,rfl⟩
 case round=>
  obtain ⟨y,t,rfl,rfl,HY,rfl⟩:=hrel
  have y0:(0:Int)≤y:=by omega
  have y1:(y:Int)≤9223372036854775807:=by have:=HY.out.2.1;omega
  have z0:(t.size:Int)≤18:=by have:=HY.out.2.2;omega
  by_cases h9:y>9
  ·have y9:(y:Int)>9:=by omega
   obtain ⟨g',rfl⟩: ∃g',gk=g'+1:=by
    cases gk with
    |zero=>have:=HY.out.1;omega
    |succ g=>exact ⟨g,rfl⟩
   clear h9
   go_wp2_with (fail)
   go_roundg g'
   case measure=>omega
   case rel=>
    refine ⟨y/10,_,by rw [Int.natCast_ediv];rfl,rfl,Lib.hid ⟨?_,by have:=HY.out.2.1;omega,?_⟩,rfl⟩
    ·have h1:=HY.out.1
     rw [show 10^(g'+1+1)=10^(g'+1)*10 from rfl] at h1
     omega
    ·have:=HY.out.2.2
     rw [ByteArray.size_append,ByteArray.size_extract]
     omega
  ·have y9: ¬(y:Int)>9:=by omega
   clear h9
   go_wp2_with (fail)
   go_returns
   exact ⟨_,rfl,by have:=HY.out.2.2;rw [ByteArray.size_append,ByteArray.size_extract];omega,Ux.Touch.refl _ _⟩
set_option maxHeartbeats 8000000 in
set_option maxRecDepth 100000 in
theorem textNum_ (x:Int) (w:World) (hx:i64B x):Calls Try.prog 26 #[.int .i64 x] w fun e w'=>StrR 20 w w' e:=by
 by_cases h0:0≤x
 ·obtain ⟨y,rfl⟩: ∃y:Nat,x=y:=⟨x.toNat,by omega⟩
  refine (textNat_ y w (by have:=hx.2;omega)).mono ?_
  rintro e w' ⟨t,rfl,ht,T⟩
  exact ⟨t,rfl,by omega,T⟩
 ·by_cases h1:x= -9223372036854775808
  ·subst h1
   clear h0 hx
   go_enter Try.func26,Try.ntmps26
   go_wp2_with (fail)
   go_returns
   exact ⟨_,rfl,by decide,Ux.Touch.refl _ _⟩
  ·obtain ⟨y,hy⟩: ∃y:Nat,-x=y:=⟨(-x).toNat,by omega⟩
   have HC:=Lib.hid (textNat_ y w (by have:=hx.1;omega))
   have k0:(x== -9223372036854775808)=false:=beq_false_of_ne h1
   have k1:x<0:=by omega
   have k2: -9223372036854775808<x:=by have:=hx.1;omega
   rw [←hy] at HC
   have k3: -x≤9223372036854775807:=by omega
   have k4:0< -x:=by omega
   clear h0 h1 hy
   go_enter Try.func26,Try.ntmps26
   go_wp2_with (go_at_call 26;fail)
   refine HC.out.mono ?_
   rintro e w2 ⟨t,rfl,ht,T⟩
   have HT:=Lib.hid (And.intro ht T)
   have z0:(t.size:Int)≤19:=by omega
   clear ht T
   go_wp2_with (fail)
   go_returns
   exact ⟨_,rfl,by have:=HT.out.1;rw [ByteArray.size_append];show 1+_≤20;omega,HT.out.2⟩
def textV (s:ByteArray):Value:= .agg #[.int .i64 3,.int .i64 0,.string s]
set_option maxHeartbeats 8000000 in
set_option maxRecDepth 100000 in
theorem ok11_ (s:ByteArray) (w:World):Calls Try.prog 43 #[textV s] w fun e w'=>e= .returned (.bool true)∧Ux.Touch (fun _=>False) w w':=by
 obtain ⟨z,hz⟩: ∃b,s.toList.isEmpty=b:=⟨_,rfl⟩
 have HT:=Lib.hid (Ux.Touch.refl (fun _=>False) w)
 unfold textV
 cases z
 all_goals go_enter Try.func43,Try.ntmps43
 all_goals go_wp2_with (fail)
 all_goals go_returns
 all_goals exact ⟨rfl,HT.out.alloc _⟩
set_option maxHeartbeats 8000000 in
set_option maxRecDepth 100000 in
theorem clean11_ (s:ByteArray) (w:World):Calls Try.prog 34 #[textV s] w fun e w'=>e= .returned (textV s)∧Ux.Touch (fun _=>False) w w':=by
 obtain ⟨W1,hW1⟩: ∃W,w.alloc (.cells #[.int .i64 3,.int .i64 0,.string s] 64)=W:=⟨_,rfl⟩
 obtain ⟨b1,hb1⟩: ∃b,w.heap.size=b:=⟨_,rfl⟩
 obtain ⟨W2,hW2⟩: ∃W,W1.alloc (.cells #[.int .i64 0,.int .i64 0,.string ⟨#[]⟩] 64)=W:=⟨_,rfl⟩
 obtain ⟨b2,hb2⟩: ∃b,W1.heap.size=b:=⟨_,rfl⟩
 have t1:Ux.Touch (fun _=>False) w W1:=by rw [←hW1];exact (Ux.Touch.refl _ _).alloc _
 have t2:Ux.Touch (fun _=>False) W1 W2:=by rw [←hW2];exact (Ux.Touch.refl _ _).alloc _
 have r1:W1.heap[b1]? =some (.cells #[.int .i64 3,.int .i64 0,.string s] 64 (0,0)):=by rw [←hW1,←hb1];exact heap_alloc_new w _
 have r2:W2.heap[b2]? =some (.cells #[.int .i64 0,.int .i64 0,.string ⟨#[]⟩] 64 (0,0)):=by rw [←hW2,←hb2];exact heap_alloc_new W1 _
 have r1':=t2.heap r1 (fun f=>f)
 have c0:=cell_of_row W2 b1 0 _ _ (0,0) r1'
 have c1:=cell_of_row W2 b1 1 _ _ (0,0) r1'
 have c2:=cell_of_row W2 b1 2 _ _ (0,0) r1'
 simp at c0 c1 c2
 have HC:=Lib.hid (ok11_ s W2)
 have HT:=Lib.hid (And.intro (t1.trans t2 fun _ _ f=>f.elim) (And.intro r2 (And.intro r1' (show w.heap.size≤b2 by have:=t1.size;omega))))
 clear t1 t2 r1 r2 r1'
 show Calls Try.prog 34 #[.agg #[.int .i64 3,.int .i64 0,.string s]] w _
 go_enter Try.func34,Try.ntmps34
 go_wp2_with (go_at_call 43;fail)
 refine HC.out.mono ?_
 rintro e w3 ⟨rfl,T3⟩
 have c0:=T3.cell c0 (fun f=>f)
 have c1:=T3.cell c1 (fun f=>f)
 have c2:=T3.cell c2 (fun f=>f)
 have r3:=T3.heap HT.out.2.1 (fun f=>f)
 have H3:=Lib.hid T3
 clear T3 hW1 hW2 hb1 hb2
 go_wp2_with (refine Ux.is_store 64 rfl ?_;refine Ux.storeN rfl 64 _ _ rfl b2 _ rfl rfl 64 _ r3 (by kernel_rfl) rfl (by simp [Value.oneCell']) ?_)
 intro W4 r4 t4
 clear r3
 go_wp2_with (fail)
 refine bodyPost_ret (results_cell_row Try.results34 _ _ b2 64 _ (0,0) _ rfl r4 Try.underlying64 rfl (by kernel_rfl)) rfl ?_
 exact ⟨rfl,(HT.out.1.trans H3.out fun _ _ f=>f.elim).trans (R:=fun _=>False) t4 fun b hb e=>by have:=HT.out.2.2.2;omega⟩
set_option maxHeartbeats 8000000 in
set_option maxRecDepth 100000 in
theorem textV_ (s:ByteArray) (w:World):Calls Try.prog 28 #[.string s] w fun e w'=>e= .returned (textV s)∧Ux.Touch (fun _=>False) w w':=by
 obtain ⟨W2,hW2⟩: ∃W,w.alloc (.cells #[.int .i64 0,.int .i64 0,.string ⟨#[]⟩] 64)=W:=⟨_,rfl⟩
 obtain ⟨b2,hb2⟩: ∃b,w.heap.size=b:=⟨_,rfl⟩
 have t2:Ux.Touch (fun _=>False) w W2:=by rw [←hW2];exact (Ux.Touch.refl _ _).alloc _
 have r2:W2.heap[b2]? =some (.cells #[.int .i64 0,.int .i64 0,.string ⟨#[]⟩] 64 (0,0)):=by rw [←hW2,←hb2];exact heap_alloc_new w _
 have HT:=Lib.hid (And.intro t2 hb2)
 clear t2
 go_enter Try.func28,Try.ntmps28
 go_wp2_with (refine Ux.is_store 64 rfl ?_;refine Ux.storeN rfl 64 _ _ rfl b2 _ rfl rfl 64 _ r2 (by kernel_rfl) rfl (by simp [Value.oneCell']) ?_)
 intro W4 r4 t4
 clear r2
 go_wp2_with (fail)
 refine bodyPost_ret (results_cell_row Try.results28 _ _ b2 64 _ (0,0) _ rfl r4 Try.underlying64 rfl (by kernel_rfl)) rfl ?_
 exact ⟨rfl,HT.out.1.trans (R:=fun _=>False) t4 fun b hb e=>by have:=HT.out.2;omega⟩
set_option maxHeartbeats 8000000 in
set_option maxRecDepth 100000 in
theorem print_ (s:ByteArray) (w:World) (hs:s.size≤1000000000):Calls Try.prog 27 #[textV s] w fun e w'=>StrR (2*s.size+2) w w' e:=by
 obtain ⟨n,hn⟩: ∃n,s.size=n:=⟨_,rfl⟩
 obtain ⟨W1,hW1⟩: ∃W,w.alloc (.cells #[.int .i64 3,.int .i64 0,.string s] 64)=W:=⟨_,rfl⟩
 obtain ⟨b1,hb1⟩: ∃b,w.heap.size=b:=⟨_,rfl⟩
 have t1:Ux.Touch (fun _=>False) w W1:=by rw [←hW1];exact (Ux.Touch.refl _ _).alloc _
 have r1:W1.heap[b1]? =some (.cells #[.int .i64 3,.int .i64 0,.string s] 64 (0,0)):=by rw [←hW1,←hb1];exact heap_alloc_new w _
 have c0:=cell_of_row W1 b1 0 _ _ (0,0) r1
 have c1:=cell_of_row W1 b1 1 _ _ (0,0) r1
 have c2:=cell_of_row W1 b1 2 _ _ (0,0) r1
 simp at c0 c1 c2
 have HC:=Lib.hid (clean11_ s W1)
 have HT:=Lib.hid (And.intro t1 (And.intro r1 hb1))
 have j0:(n:Int)≤1000000000:=by omega
 have HN:=Lib.hid (And.intro hn hs)
 rw [hn]
 clear t1 r1 hs
 show Calls Try.prog 27 #[.agg #[.int .i64 3,.int .i64 0,.string s]] w _
 go_enter Try.func27,Try.ntmps27
 go_wp2_with (go_at_call 34;fail)
 refine HC.out.mono ?_
 rintro e w3 ⟨rfl,T3⟩
 have r3:=T3.heap HT.out.2.1 (fun f=>f)
 have H3:=Lib.hid T3
 clear T3 hW1 hb1 c0 c1 c2
 unfold textV
 go_wp2_with (refine Ux.is_store 64 rfl ?_;refine Ux.storeN rfl 64 _ _ rfl b1 _ rfl rfl 64 _ r3 (by kernel_rfl) rfl (by simp [Value.oneCell']) ?_)
 intro W4 r4 t4
 clear r3
 have c0:=cell_of_row W4 b1 0 _ _ (0,0) r4
 have c2:=cell_of_row W4 b1 2 _ _ (0,0) r4
 simp at c0 c2
 have H4:=Lib.hid ((HT.out.1.trans H3.out fun _ _ f=>f.elim).trans (R:=fun _=>False) t4 fun b hb e=>by have:=HT.out.2.2;omega)
 clear r4 t4
 go_wp2_with (fail)
 go_loopg [3,4] n (fun gk s3 s4 wr=> ∃(i:Nat) (t:ByteArray),s4= .int .i64 i∧s3= .string t∧i+gk=n∧Hid (t.size≤2*i+1)∧wr=W4)
 case atStart=>exact ⟨0,⟨#[39]⟩,rfl,rfl,by omega,Lib.hid (by decide),rfl⟩
 case round=>
  obtain ⟨i,t,rfl,rfl,hig,HS,rfl⟩:=hrel
  have i0:(0:Int)≤i:=by omega
  have z0:(t.size:Int)≤2*i+1:=by have:=HS.out;omega
  by_cases hlt:i<n
  ·obtain ⟨g',rfl⟩: ∃g',gk=g'+1:=⟨gk-1,by omega⟩
   have i1:(i:Int)<n:=by omega
   have hl:i<s.size:=by omega
   clear hlt
   obtain ⟨z,hz⟩: ∃b,((s[i].toNat:Int)==39)=b:=⟨_,rfl⟩
   cases z
   ·go_wp2_with (fail)
    go_roundg g'
    case measure=>omega
    case rel=>exact ⟨i+1,_,rfl,rfl,by omega,Lib.hid (by have:=HS.out;rw [ByteArray.size_append,ByteArray.size_extract];omega),rfl⟩
   ·go_wp2_with (fail)
    go_roundg g'
    case measure=>omega
    case rel=>exact ⟨i+1,_,rfl,rfl,by omega,Lib.hid (by have:=HS.out;have e1:(⟨#[39]⟩:ByteArray).size=1:=rfl;rw [ByteArray.size_append,ByteArray.size_append,ByteArray.size_extract,e1];omega),rfl⟩
  ·have i1: ¬(i:Int)<n:=by omega
   obtain rfl:i=n:=by omega
   clear hlt
   go_wp2_with (fail)
   go_returns
   exact ⟨_,rfl,by have:=HS.out;have e1:(⟨#[39]⟩:ByteArray).size=1:=rfl;rw [ByteArray.size_append,e1];omega,H4.out⟩
end Go.Proofs.Ytmonfaepfbpdpaa
namespace Go.Proofs.Ytmonfaepfbpdpaa
open Go.RowKit
open Ux (i64B ND NRows nodV Nod)
def WordsC (x:Nod):Prop:= ∀(A:Nat→Prop) (w:World) (u:Value),ND w A x (nodV x u)→x.wt≤10000000→Calls Try.prog 16 #[nodV x u] w fun e w'=>StrR x.wt w w' e
def AtC (x:Nod):Prop:= ∀(A:Nat→Prop) (w:World) (u:Value) (L:Int),ND w A x (nodV x u)→x.wt≤10000000→Calls Try.prog 22 #[nodV x u,.int .i64 L] w fun e w'=>StrR (x.wt+4) w w' e
set_option maxHeartbeats 8000000 in
set_option maxRecDepth 100000 in
theorem at_ (x:Nod) (HW:WordsC x):AtC x:=by
 intro A w u L h hwt
 obtain ⟨v,e,hf,hr⟩:=h.open
 obtain ⟨a,c,rfl,hc⟩:=hr.is
 obtain rfl:u= .slice a x.l.length c:=by unfold nodV at e;simpa using e
 obtain ⟨n,hn⟩: ∃n,x.l.length=n:=⟨_,rfl⟩
 have n0:(n:Int)≤140737488355328:=by have:=hf.2.2.2.2.2;omega
 have n1:(n:Int)≤c:=by omega
 obtain ⟨W1,hW1⟩: ∃W,w.alloc (.cells #[.int .i64 x.kind,.int .i64 x.op,.string x.s,.string x.t,.int .i64 x.n,.slice a n c] 24)=W:=⟨_,rfl⟩
 obtain ⟨b1,hb1⟩: ∃b,w.heap.size=b:=⟨_,rfl⟩
 have t1:Ux.Touch (fun _=>False) w W1:=by rw [←hW1];exact (Ux.Touch.refl _ _).alloc _
 have r1:W1.heap[b1]? =some (.cells #[.int .i64 x.kind,.int .i64 x.op,.string x.s,.string x.t,.int .i64 x.n,.slice a n c] 24 (0,0)):=by rw [←hW1,←hb1];exact heap_alloc_new w _
 have c0:=cell_of_row W1 b1 0 _ _ (0,0) r1
 have c1:=cell_of_row W1 b1 1 _ _ (0,0) r1
 have c2:=cell_of_row W1 b1 2 _ _ (0,0) r1
 have c3:=cell_of_row W1 b1 3 _ _ (0,0) r1
 have c4:=cell_of_row W1 b1 4 _ _ (0,0) r1
 have c5:=cell_of_row W1 b1 5 _ _ (0,0) r1
 simp at c0 c1 c2 c3 c4 c5
 have hgoal:nodV x (.slice a x.l.length c)= .agg #[.int .i64 x.kind,.int .i64 x.op,.string x.s,.string x.t,.int .i64 x.n,.slice a n c]:=by rw [hn];rfl
 rw [hgoal]
 have HT:=Lib.hid (And.intro t1 (And.intro h hn))
 have HL:=Lib.hid (level_ x A W1 _ (h.touch0 t1))
 have HC:=Lib.hid fun W (T:Ux.Touch (fun _=>False) W1 W)=>HW A W _ ((h.touch0 t1).touch0 T) hwt
 have hN:nodV x (.slice a x.l.length c)= .agg #[.int .i64 x.kind,.int .i64 x.op,.string x.s,.string x.t,.int .i64 x.n,.slice a n c]:=by rw [hn];rfl
 rw [hN] at HL HC
 obtain ⟨m,hm⟩: ∃m,x.wt=m:=⟨_,rfl⟩
 rw [hm] at hwt HC⊢
 have m0:(m:Int)≤10000000:=by omega
 clear hgoal t1 r1 h hr e hf hc hn n0 n1 hN HW hm hwt
 go_enter Try.func22,Try.ntmps22
 go_wp2_with (go_at_call 21;fail)
 refine HL.out.mono ?_
 rintro e w2 ⟨k,rfl,hk1,hk2,T2⟩
 have d0:=T2.cell c0 (fun f=>f)
 have d1:=T2.cell c1 (fun f=>f)
 have d2:=T2.cell c2 (fun f=>f)
 have d3:=T2.cell c3 (fun f=>f)
 have d4:=T2.cell c4 (fun f=>f)
 have d5:=T2.cell c5 (fun f=>f)
 have HC2:=Lib.hid (HC.out w2 T2)
 have H2:=Lib.hid T2
 clear T2 c0 c1 c2 c3 c4 c5 hW1 hb1 HC HL
 by_cases hkl:k<L
 ·go_wp2_with (go_at_call 16;fail)
  refine HC2.out.mono ?_
  rintro e w3 ⟨t,rfl,ht,T3⟩
  have z0:(t.size:Int)≤m:=by omega
  have H3:=Lib.hid (And.intro ht T3)
  clear ht T3
  go_wp2_with (fail)
  go_returns
  exact ⟨_,rfl,by have:=H3.out.1;rw [ByteArray.size_append,ByteArray.size_append];show 2+_+2≤_;omega,(HT.out.1.trans H2.out fun _ _ f=>f.elim).trans H3.out.2 fun _ _ f=>f.elim⟩
 ·go_wp2_with (go_at_call 16;fail)
  refine HC2.out.mono ?_
  rintro e w3 ⟨t,rfl,ht,T3⟩
  have H3:=Lib.hid (And.intro ht T3)
  clear ht T3
  go_wp2_with (fail)
  go_returns
  exact ⟨_,rfl,by have:=H3.out.1;omega,(HT.out.1.trans H2.out fun _ _ f=>f.elim).trans H3.out.2 fun _ _ f=>f.elim⟩
set_option maxHeartbeats 8000000 in
set_option maxRecDepth 100000 in
theorem commas_ (l:List Nod) (H: ∀y∈l,AtC y) (A:Nat→Prop) (w:World) (v:Value) (h:NRows w A l v) (hl:l.length≤140737488355328) (hwt:Nod.wtL l≤10000000):Calls Try.prog 25 #[v] w fun e w'=>StrR (Nod.wtL l) w w' e:=by
 obtain ⟨a,c,rfl,hc⟩:=h.is
 obtain ⟨n,hn⟩: ∃n,l.length=n:=⟨_,rfl⟩
 have n0:(n:Int)≤140737488355328:=by omega
 have n1:(n:Int)≤c:=by omega
 have HT:=Lib.hid (And.intro h (And.intro hn (And.intro H hwt)))
 rw [hn]
 clear h hl hc hn H hwt
 go_enter Try.func25,Try.ntmps25
 go_wp2_with (fail)
 go_loopg [3,4] n (fun gk s3 s4 wr=> ∃(i:Nat) (t:ByteArray),s4= .int .i64 i∧s3= .string t∧i+gk=n∧Hid (t.size≤Nod.wtL (l.take i)∧Ux.Touch (fun _=>False) w wr))
 case atStart=>exact ⟨0,⟨#[]⟩,rfl,rfl,by omega,Lib.hid ⟨Nat.zero_le _,Ux.Touch.refl _ _⟩⟩
 case round=>
  obtain ⟨i,t,rfl,rfl,hig,HS⟩:=hrel
  have i0:(0:Int)≤i:=by omega
  have hle:= @Nod.wtL_take_le l i
  have z0:(t.size:Int)≤10000000:=by have:=HS.out.1;have:=HT.out.2.2.2;omega
  clear hle
  by_cases hlt:i<n
  ·obtain ⟨g',rfl⟩: ∃g',gk=g'+1:=⟨gk-1,by omega⟩
   have i1:(i:Int)<n:=by omega
   obtain ⟨y,hy⟩: ∃y,l[i]? =some y:=⟨_,List.getElem?_eq_getElem (by have:=HT.out.2.1;omega)⟩
   obtain ⟨g,off,ua,uc,rfl,hAg,_,y0,y1,y2,y3,y4,y5,hny⟩:=(HT.out.1.touch0 HS.out.2).at hy
   have hym:=Nod.wt_mem hy
   have hyw:y.wt≤10000000:=by have:=HT.out.2.2.2;omega
   have HC:=Lib.hid (HT.out.2.2.1 y (List.mem_of_getElem? hy) A wr _ 1 hny hyw)
   have HK:=Lib.hid (And.intro hy (And.intro hyw (And.intro hlt hig)))
   obtain ⟨m,hm⟩: ∃m,y.wt=m:=⟨_,rfl⟩
   have HM:=Lib.hid hm
   have m0:(m:Int)≤10000000:=by omega
   rw [hm] at HC
   clear hy hlt hig hny hym hyw hm
   by_cases hi:0<i
   ·have i2:(i:Int)>0:=by omega
    clear hi
    go_wp2_with (go_at_call 22;fail)
    have hcw:=HC.out
    unfold nodV at hcw
    refine hcw.mono ?_
    clear hcw
    rintro e wn ⟨t2,rfl,ht2,Tn⟩
    have HN:=Lib.hid (And.intro ht2 Tn)
    have z1:(t2.size:Int)≤m+4:=by omega
    clear ht2 Tn y0 y1 y2 y3 y4 y5 HC
    go_wp2_with (fail)
    go_roundg g'
    case measure=>omega
    case rel=>
     refine ⟨i+1,_,rfl,rfl,by have:=HK.out;omega,Lib.hid ⟨?_,HS.out.2.trans HN.out.2 fun _ _ f=>f.elim⟩⟩
     have h1:=HS.out.1
     have h2:=HN.out.1
     have e1:(⟨#[32,44,32]⟩:ByteArray).size=3:=rfl
     rw [Nod.wtL_take HK.out.1,HM.out]
     simp only [ByteArray.size_append,e1]
     omega
   ·have i2: ¬(i:Int)>0:=by omega
    clear hi
    go_wp2_with (go_at_call 22;fail)
    have hcw:=HC.out
    unfold nodV at hcw
    refine hcw.mono ?_
    clear hcw
    rintro e wn ⟨t2,rfl,ht2,Tn⟩
    have HN:=Lib.hid (And.intro ht2 Tn)
    have z1:(t2.size:Int)≤m+4:=by omega
    clear ht2 Tn y0 y1 y2 y3 y4 y5 HC
    go_wp2_with (fail)
    go_roundg g'
    case measure=>omega
    case rel=>
     refine ⟨i+1,_,rfl,rfl,by have:=HK.out;omega,Lib.hid ⟨?_,HS.out.2.trans HN.out.2 fun _ _ f=>f.elim⟩⟩
     have h1:=HS.out.1
     have h2:=HN.out.1
     have e1:(⟨#[32,44,32]⟩:ByteArray).size=3:=rfl
     rw [Nod.wtL_take HK.out.1,HM.out]
     simp only [ByteArray.size_append,e1]
     omega
  ·have i1: ¬(i:Int)<n:=by omega
   clear hlt
   go_wp2_with (fail)
   go_returns
   exact ⟨_,rfl,by have h1:=HS.out.1;rwa [List.take_of_length_le (by have:=HT.out.2.1;omega)] at h1,HS.out.2⟩
end Go.Proofs.Ytmonfaepfbpdpaa
