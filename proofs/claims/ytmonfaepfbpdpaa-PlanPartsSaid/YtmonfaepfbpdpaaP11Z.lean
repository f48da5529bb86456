/- A part of the proof that the statement holds for every input that it names. No other condition. -/
import Derived.Test.YtmonfaepfbpdpaaPsBZ
import Derived.Test.YtmonfaepfbpdpaaP9Z
import Derived.Test.YtmonfaepfbpdpaaP10Z
set_option linter.unusedVariables false
set_option linter.unusedSimpArgs false
namespace Go.Proofs.Ytmonfaepfbpdpaa
open Go.RowKit
open Ux (i64B ND NRows nodV Nod)
set_option maxHeartbeats 8000000 in
set_option maxRecDepth 100000 in
theorem expr4_ (q:Nat) (a:Option Addr) (n c m:Nat) (HU0:ReadC 30 q a n c m #[.int .i64 5]) (HC0:CompC q a n c m) (I D:Nat) (w:World) (h:PS w q a n c I 0 D) (hm:n-I≤m):
 Calls Try.prog 30 #[.pointer (some ⟨q,0,none⟩),.int .i64 4] w fun e w'=> ∃k o s t x ua un uc,e= .returned (.agg #[.int .i64 k,.int .i64 o,.string s,.string t,.int .i64 x,.slice ua un uc])∧ExpR w w' q a n c I 0 D (.agg #[.int .i64 k,.int .i64 o,.string s,.string t,.int .i64 x,.slice ua un uc]):=by
 obtain ⟨b4,hb4⟩: ∃b,w.heap.size=b:=⟨_,rfl⟩
 obtain ⟨W1,hW1⟩: ∃W,w.alloc (.cells #[.int .i64 0,.int .i64 0,.string ⟨#[]⟩,.string ⟨#[]⟩,.int .i64 0,.slice none 0 0] 24)=W:=⟨_,rfl⟩
 have t1:Ux.Touch (fun _=>False) w W1:=by rw [←hW1];exact (Ux.Touch.refl _ _).alloc _
 have r4:W1.heap[b4]? =some (.cells #[.int .i64 0,.int .i64 0,.string ⟨#[]⟩,.string ⟨#[]⟩,.int .i64 0,.slice none 0 0] 24 (0,0)):=by rw [←hW1,←hb4];exact heap_alloc_new w _
 have s1:W1.heap.size=b4+1:=by rw [←hW1,World.size_alloc,hb4]
 have hqq:=h.lt
 have h1:=h.touch0 t1
 obtain ⟨d0,d1,d2,d4⟩:=h1.cells
 have HU:=Lib.hid (HU0 W1 I 0 D h1 (.inr hm))
 have HC:=Lib.hid (And.intro hm HC0)
 clear HU0 HC0 hm
 have HP:=Lib.hid (And.intro h1 (And.intro (show q<b4 by omega) (And.intro t1 (And.intro r4 (And.intro s1 hb4)))))
 clear h h1 t1 hqq r4 s1
 go_enter Try.func30,Try.ntmps30
 clear d0 d1 d4
 go_wp2_with (go_at_call 30;fail)
 refine HU.out.mono ?_
 rintro e w2 ⟨k,o,s,t,x,ua,un,uc,rfl,hnp,⟨I2,E2,hI2,hps⟩,T2⟩
 have b2:=T2.size
 have r42:=T2.heap HP.out.2.2.2.1 (by have:=HP.out.2.1;omega)
 have H2:=Lib.hid (And.intro r42 (And.intro ((HP.out.2.2.1.mono (fun _ _ f=>f.elim):Ux.Touch (fun b=>b=q) w W1).trans T2 fun _ _ e=>e) hI2))
 have HQ:=Lib.hid (HC.out.2 w2 (b4+1) I2 E2 D k o s t x ua un uc hps (by have:=HP.out.2.1;omega) (by have:=HP.out.2.2.2.2.1;omega) (hnp.mono fun g _ h=>by have:=HP.out.2.2.2.2.1;omega) (by by_cases h:E2=0;exact .inr (by have h1:=hI2 h;have:=HC.out.1;have:=h1.2;omega);exact .inl h))
 clear d2 hW1 hnp hI2 hps T2 b2 r42 HU
 go_wp2_with (go_at_call 38;fail)
 refine HQ.out.mono ?_
 rintro e w3 ⟨k,o,s,t,x,ua,un,uc,rfl,hnp,⟨I3,E3,hI3,hps⟩,T3⟩
 have H3:=Lib.hid (And.intro (T3.heap H2.out.1 (by have:=HP.out.2.1;omega)) (And.intro (H2.out.2.1.trans T3 fun _ _ e=>e) (And.intro hnp (And.intro hI3 hps))))
 clear hnp hI3 hps T3 HQ
 go_wp2_with (refine Ux.is_store 24 rfl ?_;refine Ux.store6 rfl 24 _ _ rfl b4 _ _ _ _ _ _ rfl rfl 24 _ _ _ _ _ _ H3.out.1 (by kernel_rfl) (Ux.six_one _ _ _ _ _ _ _ _) ?_)
 intro W9 r9 t9
 go_wp2_with (fail)
 have x0:=row6 r9 0
 have x1:=row6 r9 1
 have x2:=row6 r9 2
 have x3:=row6 r9 3
 have x4:=row6 r9 4
 have x5:=row6 r9 5
 simp at x0 x1 x2 x3 x4 x5
 refine bodyPost_ret (by simp [results,Try.results30,go_sem,x0,x1,x2,x3,x4,x5];try rfl) rfl ?_
 have T9:Ux.Touch (fun b=>b=q) w W9:=H3.out.2.1.trans t9 fun b hb e=>by have:=HP.out.2.2.2.2.2;omega
 exact ⟨_,_,_,_,_,_,_,_,rfl,(H3.out.2.2.1.touch t9 fun g _ h e=>by have h:b4+1≤g:=h;omega).mono fun g _ h=>(by have h:b4+1≤g:=h;have:=HP.out.2.2.2.2.2;omega:w.heap.size≤g),⟨I3,E3,(fun h=>⟨rfl,by have h3:=H3.out.2.2.2.1 h;have h2:=H2.out.2.2 h3.1;omega⟩),H3.out.2.2.2.2.touch t9 fun b hb e=>by have:=HP.out.2.1;omega⟩,T9⟩
theorem readC_of {q:Nat} {a:Option Addr} {n c m:Nat} {L:Int} (H: ∀(I D:Nat) (w:World),PS w q a n c I 0 D→n-I≤m→Calls Try.prog 30 #[.pointer (some ⟨q,0,none⟩),.int .i64 L] w fun e w'=> ∃k o s t x ua un uc,e= .returned (.agg #[.int .i64 k,.int .i64 o,.string s,.string t,.int .i64 x,.slice ua un uc])∧ExpR w w' q a n c I 0 D (.agg #[.int .i64 k,.int .i64 o,.string s,.string t,.int .i64 x,.slice ua un uc])):ReadC 30 q a n c m #[.int .i64 L]:=fun w I E D h hm=>by
 by_cases hE:E=0
 ·subst hE
  exact H I D w h (by omega)
 ·exact (exprE_ q a n c I E D L w h hE).mono fun e w' ⟨e1,h1⟩=>⟨_,_,_,_,_,_,_,_,e1,h1⟩
theorem read_all (q:Nat) (a:Option Addr) (n c:Nat): ∀m,ReadC 30 q a n c m #[.int .i64 1]∧ReadC 30 q a n c m #[.int .i64 3]∧ReadC 30 q a n c m #[.int .i64 5]∧ReadC 30 q a n c m #[.int .i64 10]:=fun m=>by
 induction m using Nat.strongRecOn with
 |ind m ih=>
  have F:ReadC 39 q a n c m #[]:=fun w I E D h hm=>first_ q a n c m (fun m' hm'=>(ih m' hm').1) I E D w h hm
  have E11:ReadC 30 q a n c m #[.int .i64 11]:=readC_of fun I D w h hm=>expr11_ q a n c m F I D w h hm
  have E10:ReadC 30 q a n c m #[.int .i64 10]:=readC_of fun I D w h hm=>expr10_ q a n c m E11 (fun m' hm'=>(ih m' hm').2.2.2) I D w h hm
  have E9:ReadC 30 q a n c m #[.int .i64 9]:=readC_of fun I D w h hm=>exprB_ q a n c m 9 (by decide) (by decide) (by decide) E10 I D w h hm
  have E8:ReadC 30 q a n c m #[.int .i64 8]:=readC_of fun I D w h hm=>exprB_ q a n c m 8 (by decide) (by decide) (by decide) E9 I D w h hm
  have E7:ReadC 30 q a n c m #[.int .i64 7]:=readC_of fun I D w h hm=>exprB_ q a n c m 7 (by decide) (by decide) (by decide) E8 I D w h hm
  have E6:ReadC 30 q a n c m #[.int .i64 6]:=readC_of fun I D w h hm=>exprB_ q a n c m 6 (by decide) (by decide) (by decide) E7 I D w h hm
  have E5:ReadC 30 q a n c m #[.int .i64 5]:=readC_of fun I D w h hm=>exprB_ q a n c m 5 (by decide) (by decide) (by decide) E6 I D w h hm
  have C4:CompC q a n c m:=compare_ q a n c m (fun m' hm'=>(ih m' hm').2.2.1) (fun m' hm'=>(ih m' hm').1)
  have E4:ReadC 30 q a n c m #[.int .i64 4]:=readC_of fun I D w h hm=>expr4_ q a n c m E5 C4 I D w h hm
  have E3:ReadC 30 q a n c m #[.int .i64 3]:=readC_of fun I D w h hm=>expr3_ q a n c m E4 (fun m' hm'=>(ih m' hm').2.1) I D w h hm
  have E2:ReadC 30 q a n c m #[.int .i64 2]:=readC_of fun I D w h hm=>exprB_ q a n c m 2 (by decide) (by decide) (by decide) E3 I D w h hm
  have E1:ReadC 30 q a n c m #[.int .i64 1]:=readC_of fun I D w h hm=>exprB_ q a n c m 1 (by decide) (by decide) (by decide) E2 I D w h hm
  exact ⟨E1,E3,E5,E10⟩
end Go.Proofs.Ytmonfaepfbpdpaa
