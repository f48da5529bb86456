/- A part of the proof that the statement holds for every input that it names. No other condition. -/
import Derived.Test.YtmonfaepfbpdpaaWordBZ
import Derived.Test.YtmonfaepfbpdpaaWordCZ
import Derived.Test.YtmonfaepfbpdpaaWordDZ
import Derived.Test.YtmonfaepfbpdpaaWordEZ
import Derived.Test.YtmonfaepfbpdpaaP3412Z
import Derived.Test.YtmonfaepfbpdpaaLexCZ
import Derived.Test.YtmonfaepfbpdpaaP23Z
set_option linter.unusedVariables false
set_option linter.unusedSimpArgs false
namespace Go.Proofs.Ytmonfaepfbpdpaa
open Go.RowKit
open Ux (i64B ND NRows nodV Nod)
theorem nodeWords_ (x:Nod):WordsC x:=by
 obtain ⟨m,hm⟩: ∃m,SizeOf.sizeOf x=m:=⟨_,rfl⟩
 induction m using Nat.strongRecOn generalizing x with
 |_ m ih=>
  have H: ∀y∈x.l,AtC y:=fun y hy=>at_ y (ih _ (by have:=Ux.Nod.lt_l hy;omega) y rfl)
  intro A w u h hwt
  by_cases h0:x.kind=0
  ·exact words0_ x H h0 A w u h hwt
  by_cases h1:x.kind=1
  ·exact words1_ x H h1 A w u h hwt
  by_cases h2:x.kind=2
  ·exact words2_ x H h2 A w u h hwt
  by_cases h3:x.kind=3
  ·exact words3_ x H h3 A w u h hwt
  by_cases h4:x.kind=4
  ·exact words4_ x H h4 A w u h hwt
  by_cases h5:x.kind=5
  ·exact words5_ x H h5 A w u h hwt
  by_cases h6:x.kind=6
  ·exact words6_ x H h6 A w u h hwt
  by_cases h7:x.kind=7
  ·exact words7_ x H h7 A w u h hwt
  by_cases h8:x.kind=8
  ·exact words8_ x H h8 A w u h hwt
  by_cases h9:x.kind=9
  ·exact words9_ x H h9 A w u h hwt
  by_cases h10:x.kind=10
  ·exact words10_ x H h10 A w u h hwt
  by_cases h11:x.kind=11
  ·exact words11_ x H h11 A w u h hwt
  by_cases h12:x.kind=12
  ·exact words12_ x H h12 A w u h hwt
  by_cases h13:x.kind=13
  ·exact words13_ x H h13 A w u h hwt
  by_cases h14:x.kind=14
  ·exact words14_ x H h14 A w u h hwt
  exact wordsX_ x H x.kind rfl (beq_false_of_ne h0) (beq_false_of_ne h1) (beq_false_of_ne h2) (beq_false_of_ne h3) (beq_false_of_ne h4) (beq_false_of_ne h5) (beq_false_of_ne h6) (beq_false_of_ne h7) (beq_false_of_ne h8) (beq_false_of_ne h9) (beq_false_of_ne h10) (beq_false_of_ne h11) (beq_false_of_ne h12) (beq_false_of_ne h13) (beq_false_of_ne h14) A w u h hwt
end Go.Proofs.Ytmonfaepfbpdpaa
namespace Go.Proofs.Ytmonfaepfbpdpaa
open Go.RowKit
open Ux (i64B ND NRows nodV Nod)
def ShowR (w w':World) (e:Ending):Prop:= ∃t b,e= .returned (.tuple #[.string t,.bool b])∧Ux.Touch (fun _=>False) w w'
set_option maxHeartbeats 8000000 in
set_option maxRecDepth 100000 in
theorem show_ (x:Nod) (A:Nat→Prop) (w:World) (u:Value) (h:ND w A x (nodV x u)) (hwt:x.wt≤10000000):Calls Try.prog 6 #[nodV x u] w fun e w'=>ShowR w w' e:=by
 obtain ⟨v,e,hf,hr⟩:=h.open
 obtain ⟨a,c,rfl,hc⟩:=hr.is
 obtain rfl:u= .slice a x.l.length c:=by unfold nodV at e;simpa using e
 obtain ⟨n,hn⟩: ∃n,x.l.length=n:=⟨_,rfl⟩
 have n0:(n:Int)≤140737488355328:=by have:=hf.2.2.2.2.2;omega
 have n1:(n:Int)≤c:=by omega
 obtain ⟨W1,hW1⟩: ∃W,w.alloc (.cells #[.int .i64 x.kind,.int .i64 x.op,.string x.s,.string x.t,.int .i64 x.n,.slice a n c] 24)=W:=⟨_,rfl⟩
 obtain ⟨b1,hb1⟩: ∃b,w.heap.size=b:=⟨_,rfl⟩
 have t1:Ux.Touch (fun _=>False) w W1:=by rw [←hW1];exact (Ux.Touch.refl _ _).alloc _
 have r1:W1.heap[b1]? =some (.cells #[.int .i64 x.kind,.int .i64 x.op,.string x.s,.string x.t,.int .i64 x.n,.slice a n c] 24 (0,0)):=by rw [←hW1,←hb1];exact heap_alloc_new w _
 have c0:=cell_of_row W1 b1 0 _ _ (0,0) r1
 have c1:=cell_of_row W1 b1 1 _ _ (0,0) r1
 have c2:=cell_of_row W1 b1 2 _ _ (0,0) r1
 have c3:=cell_of_row W1 b1 3 _ _ (0,0) r1
 have c4:=cell_of_row W1 b1 4 _ _ (0,0) r1
 have c5:=cell_of_row W1 b1 5 _ _ (0,0) r1
 simp at c0 c1 c2 c3 c4 c5
 have hgoal:nodV x (.slice a x.l.length c)= .agg #[.int .i64 x.kind,.int .i64 x.op,.string x.s,.string x.t,.int .i64 x.n,.slice a n c]:=by rw [hn];rfl
 rw [hgoal]
 have h1:=h.touch0 t1
 have HW:=Lib.hid (nodeWords_ x A W1 _ h1 hwt)
 have HS:=Lib.hid fun W (T:Ux.Touch (fun _=>False) W1 W) (y:Nod) (B:Nat→Prop) (u':Value) (hy:ND W B y (nodV y u'))=>same_ y x B A W u' _ hy (h1.touch0 T)
 have hN:nodV x (.slice a x.l.length c)= .agg #[.int .i64 x.kind,.int .i64 x.op,.string x.s,.string x.t,.int .i64 x.n,.slice a n c]:=by rw [hn];rfl
 rw [hN] at HW HS
 have HT:=Lib.hid (And.intro t1 (And.intro r1 hwt))
 clear hgoal t1 r1 h h1 hr e hf hc hn n0 n1 hN hwt
 go_enter Try.func6,Try.ntmps6
 go_wp2_with (go_at_call 16;fail)
 refine HW.out.mono ?_
 rintro e w2 ⟨t,rfl,ht,T2⟩
 have HE:=Lib.hid (exprW_ t w2 (by have:=HT.out.2.2;omega))
 have H2:=Lib.hid T2
 clear T2 ht c0 c1 c2 c3 c4 c5 hW1 hb1 HW
 go_wp2_with (go_at_call 17;fail)
 refine HE.out.mono ?_
 rintro e w3 ⟨k,o,s',t',x',ua,un,uc,at',er,rfl,⟨y,hnp⟩,T3⟩
 obtain ⟨uy,ey,_,hry⟩:=hnp.open
 obtain ⟨ya,yc,rfl,_⟩:=hry.is
 unfold nodV at ey
 simp only [Value.agg.injEq,Array.mk.injEq,List.cons.injEq,Value.int.injEq,Value.string.injEq,Value.slice.injEq,true_and,and_true] at ey
 obtain ⟨rfl,rfl,rfl,rfl,rfl,rfl,rfl,rfl⟩:=ey
 have H3:=Lib.hid (And.intro hnp (H2.out.trans T3 fun _ _ f=>f.elim))
 clear hnp T3 hry HE
 obtain ⟨b5,hb5⟩: ∃b,w3.heap.size=b:=⟨_,rfl⟩
 obtain ⟨W4,hW4⟩: ∃W,w3.alloc (.cells #[.int .i64 0,.int .i64 0,.string ⟨#[]⟩,.string ⟨#[]⟩,.int .i64 0,.slice none 0 0,.int .i64 0,.string ⟨#[]⟩,.string ⟨#[]⟩,.string ⟨#[]⟩,.int .i64 0,.int .i64 0,.slice none 0 0,.bool false,.bool false,.slice none 0 0,.slice none 0 0,.slice none 0 0,.slice none 0 0,.pointer none,.pointer none,.slice none 0 0,.slice none 0 0,.int .i64 0,.int .i64 0,.int .i64 0,.int .i64 0] 52)=W:=⟨_,rfl⟩
 have t4:Ux.Touch (fun _=>False) w3 W4:=by rw [←hW4];exact (Ux.Touch.refl _ _).alloc _
 have r5:W4.heap[b5]? =some (.cells #[.int .i64 0,.int .i64 0,.string ⟨#[]⟩,.string ⟨#[]⟩,.int .i64 0,.slice none 0 0,.int .i64 0,.string ⟨#[]⟩,.string ⟨#[]⟩,.string ⟨#[]⟩,.int .i64 0,.int .i64 0,.slice none 0 0,.bool false,.bool false,.slice none 0 0,.slice none 0 0,.slice none 0 0,.slice none 0 0,.pointer none,.pointer none,.slice none 0 0,.slice none 0 0,.int .i64 0,.int .i64 0,.int .i64 0,.int .i64 0] 52 (0,0)):=by rw [←hW4,←hb5];exact heap_alloc_new w3 _
 go_wp2_with (refine Ux.is_store 52 rfl ?_;refine Ux.storeN rfl 52 _ _ rfl b5 (toldC y.kind y.op y.s y.t y.n ua y.l.length uc at' er) rfl rfl 52 _ r5 (by kernel_rfl) rfl (told_one _ _ _ _ _ _ _ _ _ _) ?_)
 intro W5 q5 t5
 have T35:Ux.Touch (fun _=>False) w3 W5:=t4.trans (R:=fun _=>False) t5 fun b hb e=>by omega
 have r1':=(H3.out.2.trans T35 fun _ _ f=>f.elim).heap HT.out.2.1 (fun f=>f)
 have y0:=row6 q5 0
 have y1:=row6 q5 1
 have y2:=row6 q5 2
 have y3:=row6 q5 3
 have y4:=row6 q5 4
 have y5:=row6 q5 5
 have y26:=row6 q5 26
 simp [toldC] at y0 y1 y2 y3 y4 y5 y26
 have c0:=row6 r1' 0
 have c1:=row6 r1' 1
 have c2:=row6 r1' 2
 have c3:=row6 r1' 3
 have c4:=row6 r1' 4
 have c5:=row6 r1' 5
 simp at c0 c1 c2 c3 c4 c5
 have H5:=Lib.hid (And.intro (H3.out.2.trans T35 fun _ _ f=>f.elim) (H3.out.1.touch0 T35))
 clear t4 r5 q5 t5 T35 r1' hW4 hb5
 obtain ⟨z,hz⟩: ∃b,(er !=0)=b:=⟨_,rfl⟩
 cases z with
 |true=>
  go_wp2_with (fail)
  go_returns
  exact ⟨_,_,rfl,HT.out.1.trans H5.out.1 fun _ _ f=>f.elim⟩
 |false=>
  have HC:=Lib.hid (HS.out W5 H5.out.1 y _ _ H5.out.2)
  go_wp2_with (go_at_call 13;fail)
  have hcw:=HC.out
  unfold nodV at hcw
  refine hcw.mono ?_
  clear hcw
  rintro e w6 ⟨b,rfl,_,T6⟩
  have H6:=Lib.hid T6
  clear T6
  cases b
  all_goals go_wp2_with (fail)
  all_goals go_returns
  all_goals exact ⟨_,_,rfl,(HT.out.1.trans H5.out.1 fun _ _ f=>f.elim).trans H6.out fun _ _ f=>f.elim⟩
end Go.Proofs.Ytmonfaepfbpdpaa
