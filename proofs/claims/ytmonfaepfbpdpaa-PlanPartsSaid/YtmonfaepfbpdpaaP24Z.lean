/- A part of the proof that the statement holds for every input that it names. No other condition. -/
import Derived.Test.YtmonfaepfbpdpaaUxNodAZ
import Derived.Test.YtmonfaepfbpdpaaUxWtAZ
import Derived.Test.YtmonfaepfbpdpaaRows
import Derived.Handy
import Derived.Laws.EntriesVeiled
import Derived.WalkSpells
import Derived.WalkLawsBesides
import Derived.BigQuiet
import Derived.Deep.Cut
import Derived.Deep.DeepCutAuto
import Derived.Lib.Overlaps
import Derived.Lib.Hide
import Derived.Test.YtmonfaepfbpdpaaUxOrdZ
set_option linter.unusedVariables false
set_option linter.unusedSimpArgs false
namespace Go.Proofs.Ytmonfaepfbpdpaa
open Go.RowKit
open Ux (i64B ND NRows nodV Nod)
def SmallR (x:Nod) (p:Nat) (k:Int) (w w':World) (e:Ending):Prop:= ∃b k',e= .returned (.bool b)∧w'.heap[p]? =some (.cells #[.int .i64 k'] 3 (0,0))∧-1≤k'∧k'≤k∧(b=true→k'=k-x.cnt∧0≤k'∧x.ok)∧Ux.Touch (fun b=>b=p) w w'
def SmallC (x:Nod):Prop:= ∀(A:Nat→Prop) (w:World) (u:Value) (p:Nat) (k D:Int),ND w A x (nodV x u)→(∀g,A g→g≠p)→w.heap[p]? =some (.cells #[.int .i64 k] 3 (0,0))→0≤k→k≤300→0≤D→D≤41→Calls Try.prog 14 #[nodV x u,.int .i64 D,.pointer (some ⟨p,0,none⟩)] w fun e w'=>SmallR x p k w w' e
theorem no_leaf {x:Nod} {p:Nat} {k:Int} {w w':World} (T:Ux.Touch (fun b=>b=p) w w') (hr:w'.heap[p]? =some (.cells #[.int .i64 (k-1)] 3 (0,0))) (hk:0≤k):SmallR x p k w w' (.returned (.bool false)):=⟨false,k-1,rfl,hr,by omega,by omega,(fun h=>by cases h),T⟩
set_option maxHeartbeats 8000000 in
set_option maxRecDepth 100000 in
theorem small_ (x:Nod):SmallC x:=by
 obtain ⟨m,hm⟩: ∃m,SizeOf.sizeOf x=m:=⟨_,rfl⟩
 induction m using Nat.strongRecOn generalizing x with
 |_ m ih0=>
  have ih: ∀z:Nod,SizeOf.sizeOf z<SizeOf.sizeOf x→SmallC z:=fun z hz=>ih0 _ (by omega) z rfl
  clear ih0 hm
  intro A w u p k D h hA hp k0 k3 d0 d4
  obtain ⟨v,e,hf,hr⟩:=h.open
  obtain ⟨a,c,rfl,hc⟩:=hr.is
  obtain rfl:u= .slice a x.l.length c:=by unfold nodV at e;simpa using e
  obtain ⟨n,hn⟩: ∃n,x.l.length=n:=⟨_,rfl⟩
  obtain ⟨ns,hns⟩: ∃n,x.s.size=n:=⟨_,rfl⟩
  obtain ⟨nt,hnt⟩: ∃n,x.t.size=n:=⟨_,rfl⟩
  have n0:(n:Int)≤140737488355328:=by have:=hf.2.2.2.2.2;omega
  have n1:(ns:Int)≤140737488355328:=by have:=hf.2.2.2.1;omega
  have n2:(nt:Int)≤140737488355328:=by have:=hf.2.2.2.2.1;omega
  have n3:(n:Int)≤c:=by omega
  obtain ⟨W1,hW1⟩: ∃W,w.alloc (.cells #[.int .i64 x.kind,.int .i64 x.op,.string x.s,.string x.t,.int .i64 x.n,.slice a n c] 24)=W:=⟨_,rfl⟩
  obtain ⟨W2,hW2⟩: ∃W,W1.setCell ⟨p,0,none⟩ (.int .i64 (k-1))=W:=⟨_,rfl⟩
  obtain ⟨b3,hb3⟩: ∃b,w.heap.size=b:=⟨_,rfl⟩
  have hpb:=Ux.lt_of_heap hp
  have t1:Ux.Touch (fun _=>False) w W1:=by rw [←hW1];exact (Ux.Touch.refl _ _).alloc _
  have r3:W1.heap[b3]? =some (.cells #[.int .i64 x.kind,.int .i64 x.op,.string x.s,.string x.t,.int .i64 x.n,.slice a n c] 24 (0,0)):=by rw [←hW1,←hb3];exact heap_alloc_new w _
  have hp1:=t1.heap hp (fun f=>f)
  have t2:Ux.Touch (fun b=>b=p) W1 W2:=by rw [←hW2];exact (Ux.Touch.refl (fun b=>b=p) W1).setCell (p:=⟨p,0,none⟩) (fun _=>rfl) _
  have hp2:W2.heap[p]? =some (.cells #[.int .i64 (k-1)] 3 (0,0)):=by rw [←hW2];exact Ux.setCell_row hp1 0 _
  have hne:b3≠p:=by omega
  have r3':=t2.heap r3 hne
  have T02:Ux.Touch (fun b=>b=p) w W2:=(t1.mono fun _ _ f=>f.elim).trans t2 fun _ _ e=>e
  have p1:W1.cell? ⟨p,0,none⟩=some (.int .i64 k):=by rw [cell_of_row W1 p 0 _ _ (0,0) hp1];rfl
  have p2:W2.cell? ⟨p,0,none⟩=some (.int .i64 (k-1)):=by rw [cell_of_row W2 p 0 _ _ (0,0) hp2];rfl
  have f1:W1.frozen? ⟨p,0,none⟩=false:=by unfold World.frozen?;rw [hp1];rfl
  have c2:=cell_of_row W2 b3 2 _ _ (0,0) r3'
  have c3:=cell_of_row W2 b3 3 _ _ (0,0) r3'
  have c5:=cell_of_row W2 b3 5 _ _ (0,0) r3'
  simp at c2 c3 c5
  have HR:=Lib.hid (And.intro h (And.intro hA (And.intro T02 (And.intro hp2 (And.intro r3' (And.intro hne (And.intro hb3 hpb)))))))
  have HX:=Lib.hid (And.intro hn (And.intro hns hnt))
  have hgoal:nodV x (.slice a x.l.length c)= .agg #[.int .i64 x.kind,.int .i64 x.op,.string x.s,.string x.t,.int .i64 x.n,.slice a n c]:=by rw [hn];rfl
  rw [hgoal]
  clear hgoal
  clear t1 r3 hp1 t2 hp2 r3' T02 h hA hr hf e hc hp hne hpb
  clear hn
  by_cases z0:k-1<0
  ·have k0':=Lib.hid k0
   go_enter Try.func14,Try.ntmps14
   go_wp2_with (fail)
   go_returns
   exact no_leaf HR.out.2.2.1 HR.out.2.2.2.1 k0'.out
  ·by_cases z1:D>40
   ·have k0':=Lib.hid k0
    go_enter Try.func14,Try.ntmps14
    go_wp2_with (fail)
    go_returns
    exact no_leaf HR.out.2.2.1 HR.out.2.2.2.1 k0'.out
   ·by_cases z2:(n:Int)>20
    ·have k0':=Lib.hid k0
     go_enter Try.func14,Try.ntmps14
     go_wp2_with (fail)
     go_returns
     exact no_leaf HR.out.2.2.1 HR.out.2.2.2.1 k0'.out
    ·by_cases z3:(ns:Int)>500
     ·have k0':=Lib.hid k0
      go_enter Try.func14,Try.ntmps14
      go_wp2_with (fail)
      go_returns
      exact no_leaf HR.out.2.2.1 HR.out.2.2.2.1 k0'.out
     ·by_cases z4:(nt:Int)>50
      ·have k0':=Lib.hid k0
       go_enter Try.func14,Try.ntmps14
       go_wp2_with (fail)
       go_returns
       exact no_leaf HR.out.2.2.1 HR.out.2.2.2.1 k0'.out
      ·have H0:=Lib.hid (And.intro z0 (And.intro z1 (And.intro z2 (And.intro z3 z4))))
       have q1:(b3:Nat)<w.heap.size+1:=by have:=HR.out.2.2.2.2.2.2.1;omega
       clear q1
       go_enter Try.func14,Try.ntmps14
       go_wp2_with (fail)
       clear z0 z2 z3 z4 p1 p2 f1 hW1 hW2 hb3 c2 c3 hns hnt
       go_loopg [7] n (fun gk s7 wr=> ∃i:Nat,s7= .int .i64 i∧i+gk=n∧Hid (∃kk:Int,wr.heap[p]? =some (.cells #[.int .i64 kk] 3 (0,0))∧kk=k-1-Nod.cntL (x.l.take i)∧0≤kk∧Nod.okL (x.l.take i)∧Ux.Touch (fun b=>b=p) W2 wr))
       case atStart=>exact ⟨0,rfl,by omega,Lib.hid ⟨k-1,HR.out.2.2.2.1,by rw [List.take_zero,Nod.cntL_nil];omega,by have:=H0.out.1;omega,by rw [List.take_zero,Nod.okL];trivial,Ux.Touch.refl _ _⟩⟩
       case round=>
        obtain ⟨i,rfl,hig,HI⟩:=hrel
        obtain ⟨kk,hpp,hkk,hk0,hok,HT⟩:=HI.out
        have i0:(0:Int)≤i:=by omega
        have c5':=HT.cell (a:=⟨b3,5,none⟩) c5 HR.out.2.2.2.2.2.1
        by_cases hlt:i<n
        ·obtain ⟨g',rfl⟩: ∃g',gk=g'+1:=⟨gk-1,by omega⟩
         have i1:(i:Int)<n:=by omega
         obtain ⟨y,hy⟩: ∃y,x.l[i]? =some y:=⟨_,List.getElem?_eq_getElem (by have:=HX.out.1;omega)⟩
         have hnd:=(HR.out.1.touch HR.out.2.2.1 fun g _ h=>HR.out.2.1 g h).touch HT fun g _ h=>HR.out.2.1 g h
         obtain ⟨v2,e2,_,hr2⟩:=hnd.open
         obtain rfl:v2= .slice a x.l.length c:=by unfold nodV at e2;simpa using e2.symm
         have hrc:=hr2
         obtain ⟨g,off,ua,uc,rfl,hAg,_,y0,y1,y2,y3,y4,y5,hny⟩:=hrc.at hy
         have HC:=Lib.hid (ih y (Ux.Nod.lt_l (List.mem_of_getElem? hy)) A wr _ p kk (D+1) hny HR.out.2.1 hpp hk0 (by omega) (by omega) (by have:=H0.out.2.1;omega))
         have HK:=Lib.hid (And.intro hy (And.intro hkk (And.intro hk0 (And.intro hok (And.intro HT (And.intro hlt hig))))))
         have d5: ¬D+1<0:=by omega
         clear hnd hr2 hrc e2 hy hkk hk0 hok HT hpp HI hlt hig hny d5
         go_wp2_with (go_at_call 14;fail)
         have hcw:=HC.out
         unfold nodV at hcw
         refine hcw.mono ?_
         clear hcw
         rintro e wn ⟨b,k',rfl,hpn,hb1,hb2,hb,Tn⟩
         have HB:=Lib.hid (And.intro hpn (And.intro hb1 (And.intro hb2 (And.intro hb (HK.out.2.2.2.2.1.trans Tn fun _ _ e=>e)))))
         clear hpn hb1 hb2 hb Tn HC y0 y1 y2 y3 y4 y5
         cases b with
         |false=>
          go_wp2_with (fail)
          go_returns
          refine ⟨false,k',rfl,HB.out.1,HB.out.2.1,?_,(fun h=>by cases h),HR.out.2.2.1.trans HB.out.2.2.2.2 fun _ _ e=>e⟩
          have:=HB.out.2.2.1
          have:=HK.out.2.1
          omega
         |true=>
          go_wp2_with (fail)
          go_roundg g'
          case measure=>omega
          case rel=>
           obtain ⟨q1,q2,q3⟩:=HB.out.2.2.2.1 (by simp)
           exact ⟨i+1,rfl,by have:=HK.out.2.2.2.2.2;omega,Lib.hid ⟨k',HB.out.1,by rw [Nod.cntL_take HK.out.1];have:=HK.out.2.1;omega,q2,Nod.okL_take HK.out.1 HK.out.2.2.2.1 q3,HB.out.2.2.2.2⟩⟩
        ·have i1: ¬(i:Int)<n:=by omega
         have hin:x.l.length≤i:=by have:=HX.out.1;omega
         rw [List.take_of_length_le hin] at hkk hok
         have HK:=Lib.hid (And.intro hpp (And.intro hkk (And.intro hk0 (And.intro hok HT))))
         clear hlt hpp hkk hk0 hok HT HI hin
         go_wp2_with (fail)
         go_returns
         refine ⟨true,kk,rfl,HK.out.1,by have:=HK.out.2.2.1;omega,by have:=HK.out.2.1;omega,fun _=>⟨by rw [Nod.cnt_eq];have:=HK.out.2.1;omega,HK.out.2.2.1,(Nod.ok_iff x).2 ⟨?_,?_,?_,HK.out.2.2.2.1⟩⟩,HR.out.2.2.1.trans HK.out.2.2.2.2 fun _ _ e=>e⟩
         ·have:=H0.out.2.2.2.1;have:=HX.out;omega
         ·have:=H0.out.2.2.2.2;have:=HX.out;omega
         ·have:=H0.out.2.2.1;have:=HX.out;omega
def SmallXR (x:Nod) (w w':World) (e:Ending):Prop:= ∃b,e= .returned (.bool b)∧(b=true→x.cnt≤300∧x.ok)∧Ux.Touch (fun _=>False) w w'
set_option maxHeartbeats 8000000 in
set_option maxRecDepth 100000 in
theorem smallX_ (x:Nod) (A:Nat→Prop) (w:World) (u:Value) (h:ND w A x (nodV x u)):Calls Try.prog 4 #[nodV x u,.int .i64 0] w fun e w'=>SmallXR x w w' e:=by
 have h':=h.mono (A':=fun g=>A g∧g<w.heap.size) fun g hg hA=>⟨hA,hg⟩
 obtain ⟨v,e,hf,hr⟩:=h.open
 obtain ⟨a,c,rfl,hc⟩:=hr.is
 obtain rfl:u= .slice a x.l.length c:=by unfold nodV at e;simpa using e
 obtain ⟨W1,hW1⟩: ∃W,w.alloc (.cells #[.int .i64 x.kind,.int .i64 x.op,.string x.s,.string x.t,.int .i64 x.n,.slice a x.l.length c] 24)=W:=⟨_,rfl⟩
 obtain ⟨b2,hb2⟩: ∃b,w.heap.size=b:=⟨_,rfl⟩
 obtain ⟨b5,hb5⟩: ∃b,W1.heap.size=b:=⟨_,rfl⟩
 obtain ⟨W2,hW2⟩: ∃W,W1.alloc (.cells #[.int .i64 0] 3)=W:=⟨_,rfl⟩
 obtain ⟨W3,hW3⟩: ∃W,W2.setCell ⟨b5,0,none⟩ (.int .i64 300)=W:=⟨_,rfl⟩
 have t1:Ux.Touch (fun _=>False) w W1:=by rw [←hW1];exact (Ux.Touch.refl _ _).alloc _
 have t2:Ux.Touch (fun _=>False) W1 W2:=by rw [←hW2];exact (Ux.Touch.refl _ _).alloc _
 have r2:W1.heap[b2]? =some (.cells #[.int .i64 x.kind,.int .i64 x.op,.string x.s,.string x.t,.int .i64 x.n,.slice a x.l.length c] 24 (0,0)):=by rw [←hW1,←hb2];exact heap_alloc_new w _
 have r5:W2.heap[b5]? =some (.cells #[.int .i64 0] 3 (0,0)):=by rw [←hW2,←hb5];exact heap_alloc_new W1 _
 have t3:Ux.Touch (fun b=>b=b5) W2 W3:=by rw [←hW3];exact (Ux.Touch.refl (fun b=>b=b5) W2).setCell (p:=⟨b5,0,none⟩) (fun _=>rfl) _
 have r5':W3.heap[b5]? =some (.cells #[.int .i64 300] 3 (0,0)):=by rw [←hW3];exact Ux.setCell_row r5 0 _
 have hlt:=Ux.lt_of_heap r2
 have r2':=t3.heap (t2.heap r2 (fun f=>f)) (show¬b2=b5 by omega)
 have t13:Ux.Touch (fun _=>False) W1 W3:=t2.trans t3 fun b hb e=>by omega
 have T:=t1.trans t13 fun _ _ f=>f.elim
 have p5:W2.cell? ⟨b5,0,none⟩=some (.int .i64 0):=by rw [cell_of_row W2 b5 0 _ _ (0,0) r5];rfl
 have f5:W2.frozen? ⟨b5,0,none⟩=false:=by unfold World.frozen?;rw [r5];rfl
 have c0:=cell_of_row W3 b2 0 _ _ (0,0) r2'
 have c1:=cell_of_row W3 b2 1 _ _ (0,0) r2'
 have c2:=cell_of_row W3 b2 2 _ _ (0,0) r2'
 have c3:=cell_of_row W3 b2 3 _ _ (0,0) r2'
 have c4:=cell_of_row W3 b2 4 _ _ (0,0) r2'
 have c5:=cell_of_row W3 b2 5 _ _ (0,0) r2'
 simp at c0 c1 c2 c3 c4 c5
 have hsz:w.heap.size≤W1.heap.size:=t1.size
 have HC:=Lib.hid (small_ x (fun g=>A g∧g<w.heap.size) W3 _ b5 300 0 (h'.touch0 T) (fun g hg=>by omega) r5' (by decide) (by decide) (by decide) (by decide))
 have HT:=Lib.hid (And.intro T (show w.heap.size≤b5 by omega))
 clear t1 t2 t3 r2 r5 r2' t13 r5' T h h' hr hf e hc hlt hsz
 show Calls Try.prog 4 #[.agg #[.int .i64 x.kind,.int .i64 x.op,.string x.s,.string x.t,.int .i64 x.n,.slice a x.l.length c],.int .i64 0] w _
 go_enter Try.func4,Try.ntmps4
 go_wp2_with (go_at_call 14;fail)
 have hcw:=HC.out
 unfold nodV at hcw
 refine hcw.mono ?_
 clear hcw
 rintro e wn ⟨b,k',rfl,hpn,hb1,hb2',hb,Tn⟩
 have HB:=Lib.hid (And.intro hb Tn)
 have HK:=Lib.hid (And.intro hb1 hb2')
 clear hpn hb1 hb2' hb Tn HC
 go_wp2_with (fail)
 go_returns
 refine ⟨_,rfl,fun h=> ?_,HT.out.1.trans (R:=fun _=>False) HB.out.2 fun b hb e=>by have:=HT.out.2;omega⟩
 obtain ⟨q1,q2,q3⟩:=HB.out.1 h
 exact ⟨by omega,q3⟩
end Go.Proofs.Ytmonfaepfbpdpaa
