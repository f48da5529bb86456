/- A part of the proof that the statement holds for every input that it names. No other condition. -/
import Derived.Test.YtmonfaepfbpdpaaRowBZ
import Derived.Test.YtmonfaepfbpdpaaP23Z
set_option linter.unusedVariables false
set_option linter.unusedSimpArgs false
namespace Go.Proofs.Ytmonfaepfbpdpaa
open Go.RowKit
open Ux (i64B ND NRows nodV Nod)
set_option maxHeartbeats 8000000 in
set_option maxRecDepth 100000 in
theorem empty_ (w:World):Calls Try.prog 15 #[.agg #[.string ⟨#[98]⟩,.string ⟨#[97]⟩,.bool false]] w fun e w'=>e= .returned (.bool true)∧Ux.Touch (fun _=>False) w w':=by
 have HT:=Lib.hid (Ux.Touch.refl (fun _=>False) w)
 go_enter Try.func15,Try.ntmps15
 go_wp2_with (fail)
 go_returns
 exact ⟨by first|rfl|decide+kernel,HT.out.alloc _⟩
theorem pconj_nil (w:World):Calls Try.prog 7 #[.pointer none] w fun e w'=>e= .returned (.slice none 0 0)∧w'=w:=by
 go_enter Try.func7,Try.ntmps7
 go_wp2_with (fail)
 go_returns
 exact ⟨rfl,rfl⟩
theorem join_nil (w:World):Calls Try.prog 10 #[.slice none 0 0] w fun e w'=>e= .returned (.pointer none)∧w'=w:=by
 go_enter Try.func10,Try.ntmps10
 go_wp2_with (fail)
 go_returns
 exact ⟨rfl,rfl⟩
def nodA:Nod:= .mk 4 0 ⟨#[97]⟩ ⟨#[]⟩ 0 []
def nodB:Nod:= .mk 1 0 ⟨#[]⟩ ⟨#[]⟩ 0 []
theorem conj_ab:(Nod.and2 nodA nodB).conj= [nodA,nodB]:=by
 have h:=Nod.conj_joinT nodA [nodB] (by decide) (by decide)
 exact h
theorem nd_nodA (w:World) (P:Nat→Prop):ND w P nodA (nodV nodA (.slice none 0 0)):=ND.of_rows ⟨by unfold i64B;decide,by unfold i64B;decide,by unfold i64B;decide,by decide,by decide,by decide⟩ (NRows.nil _ _)
theorem nd_nodB (w:World) (P:Nat→Prop):ND w P nodB (nodV nodB (.slice none 0 0)):=ND.of_rows ⟨by unfold i64B;decide,by unfold i64B;decide,by unfold i64B;decide,by decide,by decide,by decide⟩ (NRows.nil _ _)
set_option maxHeartbeats 8000000 in
set_option maxRecDepth 100000 in
theorem awake22_ (w:World):Calls Try.prog 5 #[] w fun e w'=>e= .returned (.bool true)∧Ux.Touch (fun _=>False) w w':=by
 obtain ⟨b1,hb1⟩: ∃b,w.heap.size=b:=⟨_,rfl⟩
 obtain ⟨W1,hW1⟩: ∃W,w.alloc (.cells #[.int .i64 0,.int .i64 0,.string ⟨#[]⟩,.string ⟨#[]⟩,.int .i64 0,.slice none 0 0] 24)=W:=⟨_,rfl⟩
 obtain ⟨b2,hb2⟩: ∃b,W1.heap.size=b:=⟨_,rfl⟩
 obtain ⟨W2,hW2⟩: ∃W,W1.alloc (.cells #[.int .i64 0,.int .i64 0,.string ⟨#[]⟩,.string ⟨#[]⟩,.int .i64 0,.slice none 0 0] 24)=W:=⟨_,rfl⟩
 have t1:Ux.Touch (fun _=>False) w W1:=by rw [←hW1];exact (Ux.Touch.refl _ _).alloc _
 have t2:Ux.Touch (fun _=>False) W1 W2:=by rw [←hW2];exact (Ux.Touch.refl _ _).alloc _
 have r1:W1.heap[b1]? =some (.cells #[.int .i64 0,.int .i64 0,.string ⟨#[]⟩,.string ⟨#[]⟩,.int .i64 0,.slice none 0 0] 24 (0,0)):=by rw [←hW1,←hb1];exact heap_alloc_new w _
 have r2:W2.heap[b2]? =some (.cells #[.int .i64 0,.int .i64 0,.string ⟨#[]⟩,.string ⟨#[]⟩,.int .i64 0,.slice none 0 0] 24 (0,0)):=by rw [←hW2,←hb2];exact heap_alloc_new W1 _
 have r1':=t2.heap r1 (fun f=>f)
 have hlt:b1<b2:=by have:=Ux.lt_of_heap r1;omega
 have HT:=Lib.hid (And.intro (t1.trans t2 fun _ _ f=>f.elim) (And.intro r2 (And.intro hlt hb1)))
 clear t1 t2 r1 r2 hlt
 go_enter Try.func5,Try.ntmps5
 go_wp2_with (refine Ux.is_store 24 rfl ?_;refine Ux.store6 rfl 24 _ _ rfl b1 _ _ _ _ _ _ rfl rfl 24 _ _ _ _ _ _ r1' (by kernel_rfl) (Ux.six_one _ _ _ _ _ _ _ _) ?_)
 intro W3 q1 u1
 have r2':=u1.heap HT.out.2.1 (by have:=HT.out.2.2.1;omega)
 have H3:=Lib.hid (And.intro q1 u1)
 clear r1' q1 u1 hW1 hW2 hb1 hb2
 go_wp2_with (refine Ux.is_store 24 rfl ?_;refine Ux.store6 rfl 24 _ _ rfl b2 _ _ _ _ _ _ rfl rfl 24 _ _ _ _ _ _ r2' (by kernel_rfl) (Ux.six_one _ _ _ _ _ _ _ _) ?_)
 intro W4 q2 u2
 have q1':=u2.heap H3.out.1 (by have:=HT.out.2.2.1;omega)
 have TW4:Ux.Touch (fun _=>False) w W4:=(HT.out.1.trans (R:=fun _=>False) H3.out.2 fun b hb e=>by have:=HT.out.2.2.2;omega).trans (R:=fun _=>False) u2 fun b hb e=>by have:=HT.out.2.2.2;have:=HT.out.2.2.1;omega
 have e0:=row6 q1' 0
 have e1:=row6 q1' 1
 have e2:=row6 q1' 2
 have e3:=row6 q1' 3
 have e4:=row6 q1' 4
 have e5:=row6 q1' 5
 have f0:=row6 q2 0
 have f1:=row6 q2 1
 have f2:=row6 q2 2
 have f3:=row6 q2 3
 have f4:=row6 q2 4
 have f5:=row6 q2 5
 simp at e0 e1 e2 e3 e4 e5 f0 f1 f2 f3 f4 f5
 have H4:=Lib.hid (And.intro TW4 q1')
 clear r2' q2 u2 q1' TW4
 obtain ⟨g9,hg9⟩: ∃b,W4.heap.size=b:=⟨_,rfl⟩
 obtain ⟨W5,hW5⟩: ∃W,W4.alloc (.cells #[.int .i64 4,.int .i64 0,.string ⟨#[97]⟩,.string ⟨#[]⟩,.int .i64 0,.slice none 0 0,.int .i64 1,.int .i64 0,.string ⟨#[]⟩,.string ⟨#[]⟩,.int .i64 0,.slice none 0 0] 24)=W:=⟨_,rfl⟩
 obtain ⟨b3,hb3⟩: ∃b,W5.heap.size=b:=⟨_,rfl⟩
 obtain ⟨W6,hW6⟩: ∃W,W5.alloc (.cells #[.int .i64 0,.int .i64 0,.string ⟨#[]⟩,.string ⟨#[]⟩,.int .i64 0,.slice none 0 0] 24)=W:=⟨_,rfl⟩
 have t5:Ux.Touch (fun _=>False) W4 W5:=by rw [←hW5];exact (Ux.Touch.refl _ _).alloc _
 have t6:Ux.Touch (fun _=>False) W5 W6:=by rw [←hW6];exact (Ux.Touch.refl _ _).alloc _
 have r9:W5.heap[g9]? =some (.cells #[.int .i64 4,.int .i64 0,.string ⟨#[97]⟩,.string ⟨#[]⟩,.int .i64 0,.slice none 0 0,.int .i64 1,.int .i64 0,.string ⟨#[]⟩,.string ⟨#[]⟩,.int .i64 0,.slice none 0 0] 24 (0,0)):=by rw [←hW5,←hg9];exact heap_alloc_new W4 _
 have r3:W6.heap[b3]? =some (.cells #[.int .i64 0,.int .i64 0,.string ⟨#[]⟩,.string ⟨#[]⟩,.int .i64 0,.slice none 0 0] 24 (0,0)):=by rw [←hW6,←hb3];exact heap_alloc_new W5 _
 have hlt:g9<b3:=by have:=Ux.lt_of_heap r9;omega
 have h4b:W4.heap.size≤b3:=by omega
 have H6:=Lib.hid (And.intro (t5.trans t6 fun _ _ f=>f.elim) (And.intro (t6.heap r9 (fun f=>f)) (And.intro hlt h4b)))
 clear t5 t6 r9 hlt h4b
 go_wp2_with (refine Ux.is_store 24 rfl ?_;refine Ux.store6 rfl 24 _ _ rfl b3 _ _ _ _ _ _ rfl rfl 24 _ _ _ _ _ _ r3 (by kernel_rfl) (Ux.six_one _ _ _ _ _ _ _ _) ?_)
 intro W7 q3 u3
 have q9:=u3.heap H6.out.2.1 (by have:=H6.out.2.2.1;omega)
 have T47:Ux.Touch (fun _=>False) W4 W7:=H6.out.1.trans (R:=fun _=>False) u3 fun b hb e=>by have:=H6.out.2.2.2;omega
 have hnd:ND W7 (fun b=>b<W7.heap.size) (Nod.and2 nodA nodB) (nodV (Nod.and2 nodA nodB) (.slice (some ⟨g9,0,none⟩) 2 2)):=ND.and2 q9 (Ux.lt_of_heap q9) (nd_nodA _ _) (nd_nodB _ _)
 have hat:NAt W7 (fun b=>b<W7.heap.size) b3 0 (Nod.and2 nodA nodB):=NAt.row (x:=Nod.and2 nodA nodB) q3 hnd (Ux.lt_of_heap q3)
 have HC:=Lib.hid (pconj_ (Nod.and2 nodA nodB) _ W7 b3 0 hat (by rw [conj_ab];decide))
 have H7:=Lib.hid (And.intro (H4.out.1.trans T47 fun _ _ f=>f.elim) (T47.heap H4.out.2 (fun f=>f)))
 clear r3 q3 u3 q9 T47 hnd hat hW5 hW6 hg9 hb3 e0 e1 e2 e3 e4 e5 f0 f1 f2 f3 f4 f5
 go_wp2_with (go_at_call 7;fail)
 refine HC.out.mono ?_
 rintro e w8 ⟨v,rfl,hv,T8⟩
 rw [conj_ab] at hv
 obtain ⟨a8,c8,hvv,hc8⟩:=hv.is
 have hvv:v= .slice a8 2 c8:=hvv
 subst hvv
 obtain ⟨g8,off8,ua,uc,rfl,_,_,y0,y1,y2,y3,y4,y5,hny⟩:=hv.at (i:=0) (y:=nodA) rfl
 have x1:=T8.heap H7.out.2 (fun f=>f)
 have p0:w8.cell? ⟨g8,off8,none⟩=some (.int .i64 4):=y0
 have p1:w8.cell? ⟨g8,off8+1,none⟩=some (.int .i64 0):=y1
 have p2:w8.cell? ⟨g8,off8+2,none⟩=some (.string ⟨#[97]⟩):=y2
 have p3:w8.cell? ⟨g8,off8+3,none⟩=some (.string ⟨#[]⟩):=y3
 have p4:w8.cell? ⟨g8,off8+4,none⟩=some (.int .i64 0):=y4
 have p5:w8.cell? ⟨g8,off8+5,none⟩=some (.slice ua 0 uc):=y5
 clear y0 y1 y2 y3 y4 y5
 have c0:=row6 x1 0
 have c1:=row6 x1 1
 have c2:=row6 x1 2
 have c3:=row6 x1 3
 have c4:=row6 x1 4
 have c5:=row6 x1 5
 simp at c0 c1 c2 c3 c4 c5
 have HSM:=Lib.hid fun W (T:Ux.Touch (fun _=>False) w8 W)=>same_ nodA nodA _ (fun _=>True) W (.slice ua 0 uc) (.slice none 0 0) (hny.touch0 T) (nd_nodA _ _)
 have k2:(2:Int)≤c8:=by have:2≤c8:=hc8;omega
 have HS:=Lib.hid fun W (T:Ux.Touch (fun _=>False) w8 W)=>And.intro (T.cell p0 (fun f=>f)) (And.intro (T.cell p1 (fun f=>f)) (And.intro (T.cell p2 (fun f=>f)) (And.intro (T.cell p3 (fun f=>f)) (And.intro (T.cell p4 (fun f=>f)) (And.intro (T.cell p5 (fun f=>f)) (And.intro (T.cell c0 (fun f=>f)) (And.intro (T.cell c1 (fun f=>f)) (And.intro (T.cell c2 (fun f=>f)) (And.intro (T.cell c3 (fun f=>f)) (And.intro (T.cell c4 (fun f=>f)) (T.cell c5 (fun f=>f))))))))))))
 have H8:=Lib.hid (H7.out.1.trans T8 fun _ _ f=>f.elim)
 clear T8 hv hc8 hny x1 HC
 go_upto_region 4 with (fail)
 obtain ⟨wk,hwk⟩: ∃W,w8.drew=W:=⟨_,rfl⟩
 have Tk:=Lib.hid (show Ux.Touch (fun _=>False) w8 wk by rw [←hwk];exact (Ux.Touch.refl _ _).drew)
 refine Ux.wpr (fun _ w'=>w'.cell? ⟨g8,off8,none⟩=some (.int .i64 4)∧w'.cell? ⟨g8,off8+1,none⟩=some (.int .i64 0)∧w'.cell? ⟨g8,off8+2,none⟩=some (.string ⟨#[97]⟩)∧w'.cell? ⟨g8,off8+3,none⟩=some (.string ⟨#[]⟩)∧w'.cell? ⟨g8,off8+4,none⟩=some (.int .i64 0)∧w'.cell? ⟨g8,off8+5,none⟩=some (.slice ua 0 uc)∧w'.cell? ⟨b1,0,none⟩=some (.int .i64 4)∧w'.cell? ⟨b1,1,none⟩=some (.int .i64 0)∧w'.cell? ⟨b1,2,none⟩=some (.string ⟨#[97]⟩)∧w'.cell? ⟨b1,3,none⟩=some (.string ⟨#[]⟩)∧w'.cell? ⟨b1,4,none⟩=some (.int .i64 0)∧w'.cell? ⟨b1,5,none⟩=some (.slice none 0 0)) (.q [0,1,2,3,4,5] (.h false [6,7] (.e 8 false false (.q [9,10] (.e 11 true false (.q [12,13,14,15] (.e 16 true false (.q [17,18,19,20] (.e 21 true false (.q [22] (.line [23]))))))))))) ?_;repeat ((with_reducible refine Ux.qg ?_);refine Ux.qu ?_)
 go_wp2_with (go_at_call 13;fail)
 have hcw:=HSM.out wk Tk.out
 refine hcw.mono ?_
 clear hcw
 rintro e wn ⟨b,rfl,hb,Tn⟩
 obtain rfl:=hb (by trivial)
 have Tk:=Lib.hid (Tk.out.trans Tn fun _ _ f=>f.elim)
 clear hb Tn
 go_wp2_with (fail)
 obtain ⟨wk,rfl⟩: ∃W,W=wn:=⟨_,rfl⟩
 repeat ((with_reducible refine Ux.qg ?_);refine Ux.qu ?_)
 go_wp2_with (go_at_call 7;fail)
 refine (pconj_nil wk).mono ?_
 rintro e wn ⟨rfl,hw⟩
 obtain rfl:wk=wn:=hw.symm
 clear hw
 go_wp2_with (fail)
 refine ⟨HS.out _ Tk.out,?_⟩
 repeat ((with_reducible refine Ux.qg ?_);refine Ux.qu ?_)
 go_wp2_with (go_at_call 10;fail)
 refine (join_nil wk).mono ?_
 rintro e wn ⟨rfl,hw⟩
 obtain rfl:wk=wn:=hw.symm
 clear hw
 go_wp2_with (fail)
 refine ⟨HS.out _ Tk.out,?_⟩
 repeat ((with_reducible refine Ux.qg ?_);refine Ux.qu ?_)
 go_wp2_with (go_at_call 15;fail)
 refine (empty_ wk).mono ?_
 rintro e wn ⟨rfl,Tn⟩
 have Tk:=Lib.hid (Tk.out.trans Tn fun _ _ f=>f.elim)
 clear Tn
 go_wp2_with (fail)
 obtain ⟨wk,rfl⟩: ∃W,W=wn:=⟨_,rfl⟩
 refine ⟨HS.out _ Tk.out,?_⟩
 repeat ((with_reducible refine Ux.qg ?_);refine Ux.qu ?_)
 go_wp2_with (fail)
 go_returns
 exact ⟨rfl,H8.out.trans Tk.out fun _ _ f=>f.elim⟩
end Go.Proofs.Ytmonfaepfbpdpaa
