/- A part of the proof that the statement holds for every input that it names. No other condition. -/
import Derived.Test.YtmonfaepfbpdpaaUxNodAZ
import Derived.Test.YtmonfaepfbpdpaaRows
import Derived.Handy
import Derived.Laws.EntriesVeiled
import Derived.WalkSpells
import Derived.WalkLawsBesides
import Derived.BigQuiet
import Derived.Deep.Cut
import Derived.Deep.DeepCutAuto
import Derived.Lib.Overlaps
import Derived.Lib.Hide
import Derived.Test.YtmonfaepfbpdpaaUxOrdZ
import Derived.Test.YtmonfaepfbpdpaaUxFewZ
set_option linter.unusedVariables false
set_option linter.unusedSimpArgs false
namespace Go.Proofs.Ytmonfaepfbpdpaa
open Go.RowKit
open Ux (i64B ND NRows nodV Nod)
def BoolR (p:Prop) (w w':World) (e:Ending):Prop:= ∃b,e= .returned (.bool b)∧(p→b=true)∧Ux.Touch (fun _=>False) w w'
def SameC (x:Nod):Prop:= ∀(y:Nod) (A A':Nat→Prop) (w:World) (u u':Value),ND w A x (nodV x u)→ND w A' y (nodV y u')→Calls Try.prog 13 #[nodV x u,nodV y u'] w fun e w'=>BoolR (x=y) w w' e
set_option maxHeartbeats 8000000 in
set_option maxRecDepth 100000 in
theorem sameN_ (l l':List Nod) (H: ∀x∈l,SameC x) (A A':Nat→Prop) (w:World) (v v':Value) (h:NRows w A l v) (h':NRows w A' l' v') (hl:l.length≤140737488355328) (hl':l'.length≤140737488355328):Calls Try.prog 8 #[v,v'] w fun e w'=>BoolR (l=l') w w' e:=by
 obtain ⟨a,c,rfl,hc⟩:=h.is
 obtain ⟨a',c',rfl,hc'⟩:=h'.is
 have HH:=Lib.hid (And.intro h (And.intro h' H))
 obtain ⟨n,hn⟩: ∃n,l.length=n:=⟨_,rfl⟩
 obtain ⟨n',hn'⟩: ∃n,l'.length=n:=⟨_,rfl⟩
 rw [hn] at hl hc h⊢
 rw [hn'] at hl' hc' h'⊢
 have j0:(n:Int)≤140737488355328:=by omega
 have j1:(n':Int)≤140737488355328:=by omega
 have j2:(n:Int)≤c:=by omega
 have j3:(n':Int)≤c':=by omega
 have HN:=Lib.hid (And.intro hn hn')
 clear hl hl' hc hc' h h' H hn hn'
 by_cases hne:n=n'
 ·subst hne
  have k0:((n:Int) !=n)=false:=by simp
  go_enter Try.func8,Try.ntmps8
  go_wp2_with (fail)
  go_loopg [5] n (fun gk s5 wr=> ∃i:Nat,s5= .int .i64 i∧i+gk=n∧Hid (Ux.Touch (fun _=>False) w wr))
  case atStart=>exact ⟨0,rfl,by omega,Lib.hid (Ux.Touch.refl _ _)⟩
  case round=>
   obtain ⟨i,rfl,hig,HT⟩:=hrel
   have i0:(0:Int)≤i:=by omega
   by_cases hlt:i<n
   ·obtain ⟨g',rfl⟩: ∃g',gk=g'+1:=⟨gk-1,by omega⟩
    have i1:(i:Int)<n:=by omega
    obtain ⟨y,hy⟩: ∃y,l[i]? =some y:=⟨_,List.getElem?_eq_getElem (by have:=HN.out.1;omega)⟩
    obtain ⟨y',hy'⟩: ∃y,l'[i]? =some y:=⟨_,List.getElem?_eq_getElem (by have:=HN.out.2;omega)⟩
    have hr:=HH.out.1.touch0 HT.out
    have hr':=HH.out.2.1.touch0 HT.out
    rw [HN.out.1] at hr
    rw [HN.out.2] at hr'
    obtain ⟨g,off,ua,uc,rfl,_,_,c0,c1,c2,c3,c4,c5,hnd⟩:=hr.at hy
    obtain ⟨g2,off2,ua2,uc2,rfl,_,_,d0,d1,d2,d3,d4,d5,hnd'⟩:=hr'.at hy'
    have HC:=Lib.hid fun W (T:Ux.Touch (fun _=>False) wr W)=>HH.out.2.2 y (List.mem_of_getElem? hy) y' A A' W _ _ (hnd.touch0 T) (hnd'.touch0 T)
    have HS:=Lib.hid fun W (T:Ux.Touch (fun _=>False) wr W)=>And.intro (T.cell c0 (fun f=>f)) (And.intro (T.cell c1 (fun f=>f)) (And.intro (T.cell c2 (fun f=>f)) (And.intro (T.cell c3 (fun f=>f)) (And.intro (T.cell c4 (fun f=>f)) (And.intro (T.cell c5 (fun f=>f)) (And.intro (T.cell d0 (fun f=>f)) (And.intro (T.cell d1 (fun f=>f)) (And.intro (T.cell d2 (fun f=>f)) (And.intro (T.cell d3 (fun f=>f)) (And.intro (T.cell d4 (fun f=>f)) (T.cell d5 (fun f=>f))))))))))))
    have HY:=Lib.hid (And.intro hy hy')
    have HLT:=Lib.hid (And.intro hlt hig)
    clear hy hy' hr hr' hnd hnd' hlt hig
    go_upto_region 6 with (fail)
    obtain ⟨wk,hwk⟩: ∃W,wr.drew=W:=⟨_,rfl⟩
    have Tk:=Lib.hid (show Ux.Touch (fun _=>False) wr wk by rw [←hwk];exact (Ux.Touch.refl _ _).drew)
    refine Ux.wpr (fun _ w'=>w'.cell? ⟨g,off+i*6,none⟩=some (.int .i64 y.kind)∧w'.cell? ⟨g,off+i*6+1,none⟩=some (.int .i64 y.op)∧w'.cell? ⟨g,off+i*6+2,none⟩=some (.string y.s)∧w'.cell? ⟨g,off+i*6+3,none⟩=some (.string y.t)∧w'.cell? ⟨g,off+i*6+4,none⟩=some (.int .i64 y.n)∧w'.cell? ⟨g,off+i*6+5,none⟩=some (.slice ua y.l.length uc)∧w'.cell? ⟨g2,off2+i*6,none⟩=some (.int .i64 y'.kind)∧w'.cell? ⟨g2,off2+i*6+1,none⟩=some (.int .i64 y'.op)∧w'.cell? ⟨g2,off2+i*6+2,none⟩=some (.string y'.s)∧w'.cell? ⟨g2,off2+i*6+3,none⟩=some (.string y'.t)∧w'.cell? ⟨g2,off2+i*6+4,none⟩=some (.int .i64 y'.n)∧w'.cell? ⟨g2,off2+i*6+5,none⟩=some (.slice ua2 y'.l.length uc2)) (.q [0,1,2,4,5,6] (.h false [3,7] (.e 8 true true (.q [9] (.line []))))) ?_;repeat ((with_reducible refine Ux.qg ?_);refine Ux.qu ?_)
    go_wp2_with (go_at_call 13;fail)
    have hcw:=HC.out wk Tk.out
    unfold nodV at hcw
    refine hcw.mono ?_
    rintro e wn ⟨b,rfl,hb,T6⟩
    have HB:=Lib.hid hb
    have Tk:=Lib.hid (Tk.out.trans T6 fun _ _ f=>f.elim)
    clear hb T6 hcw
    go_wp2_with (fail)
    obtain ⟨wk,rfl⟩: ∃W,W=wn:=⟨_,rfl⟩
    first|refine ⟨⟨HS.out _ Tk.out,HS.out _ Tk.out⟩,?_⟩|refine ⟨HS.out _ Tk.out,?_⟩
    repeat ((with_reducible refine Ux.qg ?_);refine Ux.qu ?_)
    cases b with
    |true=>
     go_wp2_with (fail)
     go_roundg g'
     case measure=>omega
     case rel=>exact ⟨i+1,rfl,by have:=HLT.out;omega,Lib.hid (HT.out.trans Tk.out fun _ _ f=>f.elim)⟩
    |false=>
     go_wp2_with (fail)
     go_returns
     refine ⟨_,rfl,fun e=> ?_,HT.out.trans Tk.out fun _ _ f=>f.elim⟩
     subst e
     have h1:=HY.out.1
     rw [HY.out.2] at h1
     exact HB.out (Option.some.inj h1).symm
   ·have i1: ¬(i:Int)<n:=by omega
    clear hlt
    go_wp2_with (fail)
    go_returns
    exact ⟨_,rfl,fun _=>rfl,HT.out⟩
 ·have k0:((n:Int) !=n')=true:=by simp;omega
  have HNE:=Lib.hid hne
  clear hne
  go_enter Try.func8,Try.ntmps8
  go_wp2_with (fail)
  go_returns
  refine ⟨_,rfl,fun e=> ?_,Ux.Touch.refl _ _⟩
  exact absurd (by rw [←HN.out.1,←HN.out.2,e]) HNE.out
set_option maxHeartbeats 8000000 in
set_option maxRecDepth 100000 in
theorem same_ (x:Nod):SameC x:=by
 obtain ⟨m,hm⟩: ∃m,SizeOf.sizeOf x=m:=⟨_,rfl⟩
 induction m using Nat.strongRecOn generalizing x with
 |_ m ih0=>
  have ih: ∀z:Nod,SizeOf.sizeOf z<SizeOf.sizeOf x→SameC z:=fun z hz=>ih0 _ (by omega) z rfl
  clear ih0 hm
  intro y A A' w u u' h h'
  obtain ⟨v,e,hf,hr⟩:=h.open
  obtain ⟨v',e',hf',hr'⟩:=h'.open
  obtain ⟨a,c,rfl,hc⟩:=hr.is
  obtain ⟨a',c',rfl,hc'⟩:=hr'.is
  obtain rfl:u= .slice a x.l.length c:=by unfold nodV at e;simpa using e
  obtain rfl:u'= .slice a' y.l.length c':=by unfold nodV at e';simpa using e'
  obtain ⟨W1,hW1⟩: ∃W,w.alloc (.cells #[.int .i64 x.kind,.int .i64 x.op,.string x.s,.string x.t,.int .i64 x.n,.slice a x.l.length c] 24)=W:=⟨_,rfl⟩
  obtain ⟨W2,hW2⟩: ∃W,W1.alloc (.cells #[.int .i64 y.kind,.int .i64 y.op,.string y.s,.string y.t,.int .i64 y.n,.slice a' y.l.length c'] 24)=W:=⟨_,rfl⟩
  obtain ⟨b2,hb2⟩: ∃b,w.heap.size=b:=⟨_,rfl⟩
  obtain ⟨b3,hb3⟩: ∃b,W1.heap.size=b:=⟨_,rfl⟩
  have t1:Ux.Touch (fun _=>False) w W1:=by rw [←hW1];exact (Ux.Touch.refl _ _).alloc _
  have t2:Ux.Touch (fun _=>False) W1 W2:=by rw [←hW2];exact (Ux.Touch.refl _ _).alloc _
  have r2:W1.heap[b2]? =some (.cells #[.int .i64 x.kind,.int .i64 x.op,.string x.s,.string x.t,.int .i64 x.n,.slice a x.l.length c] 24 (0,0)):=by rw [←hW1,←hb2];exact heap_alloc_new w _
  have r3:W2.heap[b3]? =some (.cells #[.int .i64 y.kind,.int .i64 y.op,.string y.s,.string y.t,.int .i64 y.n,.slice a' y.l.length c'] 24 (0,0)):=by rw [←hW2,←hb3];exact heap_alloc_new W1 _
  have r2':=t2.heap r2 (fun f=>f)
  have c0:=cell_of_row W2 b2 0 _ _ (0,0) r2'
  have c1:=cell_of_row W2 b2 1 _ _ (0,0) r2'
  have c2:=cell_of_row W2 b2 2 _ _ (0,0) r2'
  have c3:=cell_of_row W2 b2 3 _ _ (0,0) r2'
  have c4:=cell_of_row W2 b2 4 _ _ (0,0) r2'
  have c5:=cell_of_row W2 b2 5 _ _ (0,0) r2'
  have d0:=cell_of_row W2 b3 0 _ _ (0,0) r3
  have d1:=cell_of_row W2 b3 1 _ _ (0,0) r3
  have d2:=cell_of_row W2 b3 2 _ _ (0,0) r3
  have d3:=cell_of_row W2 b3 3 _ _ (0,0) r3
  have d4:=cell_of_row W2 b3 4 _ _ (0,0) r3
  have d5:=cell_of_row W2 b3 5 _ _ (0,0) r3
  simp at c0 c1 c2 c3 c4 c5 d0 d1 d2 d3 d4 d5
  have t12:Ux.Touch (fun _=>False) w W2:=t1.trans t2 fun _ _ f=>f.elim
  have HP:=Lib.hid (And.intro (hr.touch0 t12) (And.intro (hr'.touch0 t12) (And.intro hf.2.2.2.2.2 (And.intro hf'.2.2.2.2.2 t12))))
  clear t1 t2 r2 r3 r2' t12 hr hr' hf hf' h h' e e' hc hc'
  show Calls Try.prog 13 #[.agg #[.int .i64 x.kind,.int .i64 x.op,.string x.s,.string x.t,.int .i64 x.n,.slice a x.l.length c],.agg #[.int .i64 y.kind,.int .i64 y.op,.string y.s,.string y.t,.int .i64 y.n,.slice a' y.l.length c']] w _
  obtain ⟨z0,hz0⟩: ∃b,(x.kind==y.kind)=b:=⟨_,rfl⟩
  cases z0 with
  |false=>
   have HZ:Hid (x≠y):=Lib.hid (by rintro rfl;simp at hz0)
   go_enter Try.func13,Try.ntmps13
   go_wp2_with (fail)
   go_returns
   exact ⟨_,rfl,fun e=>absurd e HZ.out,HP.out.2.2.2.2⟩
  |true=>
   obtain ⟨z1,hz1⟩: ∃b,(x.op==y.op)=b:=⟨_,rfl⟩
   cases z1 with
   |false=>
    have HZ:Hid (x≠y):=Lib.hid (by rintro rfl;simp at hz1)
    go_enter Try.func13,Try.ntmps13
    go_wp2_with (fail)
    go_returns
    exact ⟨_,rfl,fun e=>absurd e HZ.out,HP.out.2.2.2.2⟩
   |true=>
    obtain ⟨z2,hz2⟩: ∃b,(x.s.toList==y.s.toList)=b:=⟨_,rfl⟩
    cases z2 with
    |false=>
     have HZ:Hid (x≠y):=Lib.hid (by rintro rfl;simp at hz2)
     go_enter Try.func13,Try.ntmps13
     go_wp2_with (fail)
     go_returns
     exact ⟨_,rfl,fun e=>absurd e HZ.out,HP.out.2.2.2.2⟩
    |true=>
     obtain ⟨z3,hz3⟩: ∃b,(x.t.toList==y.t.toList)=b:=⟨_,rfl⟩
     cases z3 with
     |false=>
      have HZ:Hid (x≠y):=Lib.hid (by rintro rfl;simp at hz3)
      go_enter Try.func13,Try.ntmps13
      go_wp2_with (fail)
      go_returns
      exact ⟨_,rfl,fun e=>absurd e HZ.out,HP.out.2.2.2.2⟩
     |true=>
      obtain ⟨z4,hz4⟩: ∃b,(x.n==y.n)=b:=⟨_,rfl⟩
      cases z4 with
      |false=>
       have HZ:Hid (x≠y):=Lib.hid (by rintro rfl;simp at hz4)
       go_enter Try.func13,Try.ntmps13
       go_wp2_with (fail)
       go_returns
       exact ⟨_,rfl,fun e=>absurd e HZ.out,HP.out.2.2.2.2⟩
      |true=>
       have HC:=Lib.hid (sameN_ x.l y.l (fun z hz=>ih z (Ux.Nod.lt_l hz)) A A' W2 _ _ HP.out.1 HP.out.2.1 HP.out.2.2.1 HP.out.2.2.2.1)
       go_enter Try.func13,Try.ntmps13
       go_wp2_with (go_at_call 8;fail)
       refine HC.out.mono ?_
       rintro e wn ⟨b,rfl,hb,T6⟩
       have HB:=Lib.hid (And.intro hb T6)
       clear hb T6
       go_wp2_with (fail)
       go_returns
       exact ⟨_,rfl,fun e=>HB.out.1 (by rw [e]),HP.out.2.2.2.2.trans HB.out.2 fun _ _ f=>f.elim⟩
end Go.Proofs.Ytmonfaepfbpdpaa
