/- A part of the proof that the statement holds for every input that it names. No other condition. -/
import Derived.Test.YtmonfaepfbpdpaaUxNodAZ
import Derived.Test.YtmonfaepfbpdpaaUxWtAZ
import Derived.Test.YtmonfaepfbpdpaaRows
import Derived.Handy
import Derived.Laws.EntriesVeiled
import Derived.WalkSpells
import Derived.WalkLawsBesides
import Derived.BigQuiet
import Derived.Deep.Cut
import Derived.Deep.DeepCutAuto
import Derived.Lib.Overlaps
import Derived.Lib.Hide
import Derived.Test.YtmonfaepfbpdpaaUxOrdZ
import Derived.Test.YtmonfaepfbpdpaaPsAZ
set_option linter.unusedVariables false
set_option linter.unusedSimpArgs false
namespace Go.Proofs.Ytmonfaepfbpdpaa
open Go.RowKit
open Ux (i64B ND NRows nodV Nod)
def mayB (f k:Int):Bool:=if f<1∨f>3 then true else if k<1∨k>3 then false else (f !=3)||(k==3)
set_option maxHeartbeats 4000000 in
theorem may_ (f k:Int) (w:World):Calls Try.prog 33 #[.int .i64 f,.int .i64 k] w fun e w'=>e= .returned (.bool (mayB f k))∧w'=w:=by
 obtain ⟨z0,h0⟩: ∃b,(f !=3)=b:=⟨_,rfl⟩
 obtain ⟨z1,h1⟩: ∃b,(k==3)=b:=⟨_,rfl⟩
 have H:Hid (∀b,mayB f k=b→mayB f k=b):=Lib.hid fun _ h=>h
 by_cases a1:f<1
 ·have e:mayB f k=true:=by unfold mayB;rw [if_pos (.inl a1)]
  rw [e]
  clear e H
  go_enter Try.func33,Try.ntmps33
  go_wp2_with (fail)
  go_returns
  exact ⟨rfl,rfl⟩
 ·by_cases a2:f>3
  ·have e:mayB f k=true:=by unfold mayB;rw [if_pos (.inr a2)]
   rw [e]
   clear e H
   go_enter Try.func33,Try.ntmps33
   go_wp2_with (fail)
   go_returns
   exact ⟨rfl,rfl⟩
  ·have n1: ¬(f<1∨f>3):=by omega
   by_cases a3:k<1
   ·have e:mayB f k=false:=by unfold mayB;rw [if_neg n1,if_pos (.inl a3)]
    rw [e]
    clear e H n1
    go_enter Try.func33,Try.ntmps33
    go_wp2_with (fail)
    go_returns
    exact ⟨rfl,rfl⟩
   ·by_cases a4:k>3
    ·have e:mayB f k=false:=by unfold mayB;rw [if_neg n1,if_pos (.inr a4)]
     rw [e]
     clear e H n1
     go_enter Try.func33,Try.ntmps33
     go_wp2_with (fail)
     go_returns
     exact ⟨rfl,rfl⟩
    ·have n2: ¬(k<1∨k>3):=by omega
     have e:mayB f k=(z0||z1):=by unfold mayB;rw [if_neg n1,if_neg n2,h0,h1]
     rw [e]
     clear e H n1 n2
     cases z0<;>cases z1
     all_goals go_enter Try.func33,Try.ntmps33
     all_goals go_wp2_with (fail)
     all_goals go_returns
     all_goals exact ⟨rfl,rfl⟩
def aloneB (x:Nod):Bool:=
 if x.kind=14 then false
 else if x.kind=5 then x.op==21
 else if x.kind=6 then (decide (x.op<7)||decide (x.op>13))&&x.op !=17
 else if x.kind=8 then (match x.l[1]? with|some y=>y.kind==3|none=>false)
 else if x.kind=13 then !(x.s.toList==([102,111,108,100]:List UInt8))&& !(x.s.toList==([97,98,115]:List UInt8))
 else if x.kind=12 then (match x.l[0]? with|some y=>decide (x.l.length=1)&&(decide (y.kind≤3)&&mayB y.kind x.n)|none=>false)
 else true
def boolE (b:Bool) (w w':World) (e:Ending):Prop:=e= .returned (.bool b)∧Ux.Touch (fun _=>False) w w'
set_option maxHeartbeats 8000000 in
set_option maxRecDepth 100000 in
theorem alone_ (x:Nod) (A:Nat→Prop) (w:World) (u:Value) (h:ND w A x (nodV x u)):Calls Try.prog 20 #[nodV x u] w fun e w'=>boolE (aloneB x) w w' e:=by
 obtain ⟨v,e,hf,hr⟩:=h.open
 obtain ⟨a,c,rfl,hc⟩:=hr.is
 obtain rfl:u= .slice a x.l.length c:=by unfold nodV at e;simpa using e
 obtain ⟨n,hn⟩: ∃n,x.l.length=n:=⟨_,rfl⟩
 have n0:(n:Int)≤140737488355328:=by have:=hf.2.2.2.2.2;omega
 have n1:(n:Int)≤c:=by omega
 obtain ⟨W1,hW1⟩: ∃W,w.alloc (.cells #[.int .i64 x.kind,.int .i64 x.op,.string x.s,.string x.t,.int .i64 x.n,.slice a n c] 24)=W:=⟨_,rfl⟩
 obtain ⟨b1,hb1⟩: ∃b,w.heap.size=b:=⟨_,rfl⟩
 have t1:Ux.Touch (fun _=>False) w W1:=by rw [←hW1];exact (Ux.Touch.refl _ _).alloc _
 have r1:W1.heap[b1]? =some (.cells #[.int .i64 x.kind,.int .i64 x.op,.string x.s,.string x.t,.int .i64 x.n,.slice a n c] 24 (0,0)):=by rw [←hW1,←hb1];exact heap_alloc_new w _
 have c0:=cell_of_row W1 b1 0 _ _ (0,0) r1
 have c1:=cell_of_row W1 b1 1 _ _ (0,0) r1
 have c2:=cell_of_row W1 b1 2 _ _ (0,0) r1
 have c4:=cell_of_row W1 b1 4 _ _ (0,0) r1
 have c5:=cell_of_row W1 b1 5 _ _ (0,0) r1
 simp at c0 c1 c2 c4 c5
 have hgoal:nodV x (.slice a x.l.length c)= .agg #[.int .i64 x.kind,.int .i64 x.op,.string x.s,.string x.t,.int .i64 x.n,.slice a n c]:=by rw [hn];rfl
 rw [hgoal]
 have hr1:=hr.touch0 t1
 have HT:=Lib.hid (And.intro t1 (And.intro hr1 hn))
 obtain ⟨kd,hkd⟩: ∃k,x.kind=k:=⟨_,rfl⟩
 have HKD:=Lib.hid hkd
 rw [hkd] at c0 hW1⊢
 clear hgoal t1 r1 h hr hr1 e hf hc hn hkd
 by_cases hk:kd=14
 ·subst hk
  have e:aloneB x=false:=by unfold aloneB;rw [if_pos HKD.out]
  rw [e]
  clear e
  go_enter Try.func20,Try.ntmps20
  go_wp2_with (fail)
  all_goals go_returns
  all_goals exact ⟨rfl,HT.out.1⟩
 ·have k14:(kd==14)=false:=beq_false_of_ne hk
  have m14:=Lib.hid hk
  clear hk
  by_cases hk:kd=5
  ·subst hk
   obtain ⟨z,hz⟩: ∃b,(x.op==21)=b:=⟨_,rfl⟩
   have e:aloneB x=z:=by unfold aloneB;rw [if_neg (by rw [HKD.out];decide),if_pos HKD.out,hz]
   rw [e]
   clear e
   cases z
   all_goals go_enter Try.func20,Try.ntmps20
   all_goals go_wp2_with (fail)
   all_goals go_returns
   all_goals exact ⟨rfl,HT.out.1⟩
  ·have k5:(kd==5)=false:=beq_false_of_ne hk
   have m5:=Lib.hid hk
   clear hk
   by_cases hk:kd=6
   ·subst hk
    obtain ⟨z,hz⟩: ∃b,(x.op !=17)=b:=⟨_,rfl⟩
    by_cases o1:x.op<7
    ·have e:aloneB x=z:=by unfold aloneB;rw [if_neg (by rw [HKD.out];decide),if_neg (by rw [HKD.out];decide),if_pos HKD.out,hz];simp [o1]
     rw [e]
     clear e
     cases z
     all_goals go_enter Try.func20,Try.ntmps20
     all_goals go_wp2_with (fail)
     all_goals go_returns
     all_goals exact ⟨rfl,HT.out.1⟩
    ·by_cases o2:x.op>13
     ·have e:aloneB x=z:=by unfold aloneB;rw [if_neg (by rw [HKD.out];decide),if_neg (by rw [HKD.out];decide),if_pos HKD.out,hz];simp [o2]
      rw [e]
      clear e
      cases z
      all_goals go_enter Try.func20,Try.ntmps20
      all_goals go_wp2_with (fail)
      all_goals go_returns
      all_goals exact ⟨rfl,HT.out.1⟩
     ·have e:aloneB x=false:=by unfold aloneB;rw [if_neg (by rw [HKD.out];decide),if_neg (by rw [HKD.out];decide),if_pos HKD.out,hz];simp [o1,o2]
      rw [e]
      clear e hz
      go_enter Try.func20,Try.ntmps20
      go_wp2_with (fail)
      all_goals go_returns
      all_goals exact ⟨rfl,HT.out.1⟩
   ·have k6:(kd==6)=false:=beq_false_of_ne hk
    have m6:=Lib.hid hk
    clear hk
    by_cases hk:kd=8
    ·subst hk
     by_cases hl:1<n
     ·have n2:(n:Int)>1:=by omega
      obtain ⟨y,hy⟩: ∃y,x.l[1]? =some y:=⟨_,List.getElem?_eq_getElem (by have:=HT.out.2.2;omega)⟩
      obtain ⟨z,hz⟩: ∃b,(y.kind==3)=b:=⟨_,rfl⟩
      have e:aloneB x=z:=by unfold aloneB;rw [if_neg (by rw [HKD.out];decide),if_neg (by rw [HKD.out];decide),if_neg (by rw [HKD.out];decide),if_pos HKD.out,hy];exact hz
      rw [e]
      obtain ⟨g,off,ua,uc,rfl,hAg,_,y0,_⟩:=HT.out.2.1.at hy
      clear e hl hy
      cases z
      all_goals go_enter Try.func20,Try.ntmps20
      all_goals go_wp2_with (fail)
      all_goals go_returns
      all_goals exact ⟨rfl,HT.out.1⟩
     ·have n2: ¬(n:Int)>1:=by omega
      have hy:x.l[1]? =none:=List.getElem?_eq_none (by have:=HT.out.2.2;omega)
      have e:aloneB x=false:=by unfold aloneB;rw [if_neg (by rw [HKD.out];decide),if_neg (by rw [HKD.out];decide),if_neg (by rw [HKD.out];decide),if_pos HKD.out,hy]
      rw [e]
      clear e hl hy
      go_enter Try.func20,Try.ntmps20
      go_wp2_with (fail)
      all_goals go_returns
      all_goals exact ⟨rfl,HT.out.1⟩
    ·have k8:(kd==8)=false:=beq_false_of_ne hk
     have m8:=Lib.hid hk
     clear hk
     by_cases hk:kd=13
     ·subst hk
      obtain ⟨z0,h0⟩: ∃b,(x.s.toList==([102,111,108,100]:List UInt8))=b:=⟨_,rfl⟩
      obtain ⟨z1,h1⟩: ∃b,(x.s.toList==([97,98,115]:List UInt8))=b:=⟨_,rfl⟩
      have e:aloneB x=(!z0&& !z1):=by unfold aloneB;rw [if_neg (by rw [HKD.out];decide),if_neg (by rw [HKD.out];decide),if_neg (by rw [HKD.out];decide),if_neg (by rw [HKD.out];decide),if_pos HKD.out,h0,h1]
      rw [e]
      clear e
      cases z0<;>cases z1
      all_goals go_enter Try.func20,Try.ntmps20
      all_goals go_wp2_with (fail)
      all_goals go_returns
      all_goals exact ⟨rfl,HT.out.1⟩
     ·have k13:(kd==13)=false:=beq_false_of_ne hk
      have m13:=Lib.hid hk
      clear hk
      by_cases hk:kd=12
      ·subst hk
       by_cases hl:n=1
       ·have n2:((n:Int) !=1)=false:=by simp;omega
        obtain ⟨y,hy⟩: ∃y,x.l[0]? =some y:=⟨_,List.getElem?_eq_getElem (by have:=HT.out.2.2;omega)⟩
        obtain ⟨g,off,ua,uc,rfl,hAg,_,y0,_⟩:=HT.out.2.1.at hy
        have n4:(0:Int)<n:=by omega
        have y0:W1.cell? ⟨g,off,none⟩=some (.int .i64 y.kind):=by simpa using y0
        by_cases h3:y.kind≤3
        ·have e:aloneB x=mayB y.kind x.n:=by unfold aloneB;rw [if_neg (by rw [HKD.out];decide),if_neg (by rw [HKD.out];decide),if_neg (by rw [HKD.out];decide),if_neg (by rw [HKD.out];decide),if_neg (by rw [HKD.out];decide),if_pos HKD.out,hy];simp [h3,HT.out.2.2,hl]
         rw [e]
         obtain ⟨z,hz⟩: ∃b,mayB y.kind x.n=b:=⟨_,rfl⟩
         have HM:=Lib.hid (may_ y.kind x.n W1)
         rw [hz] at HM⊢
         clear e hl hy hz
         go_enter Try.func20,Try.ntmps20
         go_wp2_with (go_at_call 33;fail)
         refine HM.out.mono ?_
         rintro e2 w2 ⟨rfl,hw⟩
         obtain rfl:W1=w2:=hw.symm
         clear hw
         go_wp2_with (fail)
         all_goals go_returns
         all_goals exact ⟨rfl,HT.out.1⟩
        ·have e:aloneB x=false:=by unfold aloneB;rw [if_neg (by rw [HKD.out];decide),if_neg (by rw [HKD.out];decide),if_neg (by rw [HKD.out];decide),if_neg (by rw [HKD.out];decide),if_neg (by rw [HKD.out];decide),if_pos HKD.out,hy];simp [h3]
         rw [e]
         clear e hl hy
         go_enter Try.func20,Try.ntmps20
         go_wp2_with (fail)
         all_goals go_returns
         all_goals exact ⟨rfl,HT.out.1⟩
       ·have n2:((n:Int) !=1)=true:=by simp;omega
        have e:aloneB x=false:=by
         unfold aloneB
         rw [if_neg (by rw [HKD.out];decide),if_neg (by rw [HKD.out];decide),if_neg (by rw [HKD.out];decide),if_neg (by rw [HKD.out];decide),if_neg (by rw [HKD.out];decide),if_pos HKD.out]
         have: ¬x.l.length=1:=by have:=HT.out.2.2;omega
         split<;>simp [this]
        rw [e]
        clear e hl
        go_enter Try.func20,Try.ntmps20
        go_wp2_with (fail)
        all_goals go_returns
        all_goals exact ⟨rfl,HT.out.1⟩
      ·have k12:(kd==12)=false:=beq_false_of_ne hk
       have m12:=Lib.hid hk
       clear hk
       have e:aloneB x=true:=by unfold aloneB;rw [if_neg (by rw [HKD.out];exact m14.out),if_neg (by rw [HKD.out];exact m5.out),if_neg (by rw [HKD.out];exact m6.out),if_neg (by rw [HKD.out];exact m8.out),if_neg (by rw [HKD.out];exact m13.out),if_neg (by rw [HKD.out];exact m12.out)]
       rw [e]
       clear e
       go_enter Try.func20,Try.ntmps20
       go_wp2_with (fail)
       all_goals go_returns
       all_goals exact ⟨rfl,HT.out.1⟩
end Go.Proofs.Ytmonfaepfbpdpaa
namespace Go.Proofs.Ytmonfaepfbpdpaa
open Go.RowKit
open Ux (i64B ND NRows nodV Nod)
mutual
def safeB:Nod→Bool
 | .mk k o s t n l=>safeL l&&aloneB (.mk k o s t n l)
def safeL:List Nod→Bool
 | []=>true
 |y::l=>safeB y&&safeL l
end
theorem safeB_eq (x:Nod):safeB x=(safeL x.l&&aloneB x):=by cases x with|mk k o s t n l=>rw [safeB];rfl
theorem safeL_iff (l:List Nod):safeL l=true↔∀y∈l,safeB y=true:=by
 induction l with
 |nil=>rw [safeL];simp
 |cons y l ih=>rw [safeL,Bool.and_eq_true,ih];simp
theorem safeL_bad {l:List Nod} {i:Nat} {y:Nod} (h:l[i]? =some y) (hy:safeB y=false):safeL l=false:=by
 cases hb:safeL l with
 |false=>rfl
 |true=>rw [(safeL_iff l).1 hb y (List.mem_of_getElem? h)] at hy;cases hy
theorem safeL_take {l:List Nod} {i:Nat} {y:Nod} (h:l[i]? =some y) (h1:safeL (l.take i)=true) (h2:safeB y=true):safeL (l.take (i+1))=true:=by
 rw [safeL_iff] at h1⊢
 intro z hz
 rw [List.take_add_one,h] at hz
 rcases List.mem_append.1 hz with hz|hz
 ·exact h1 z hz
 ·have:z=y:=by simpa using hz
  rw [this]
  exact h2
def SafeC (x:Nod):Prop:= ∀(A:Nat→Prop) (w:World) (u:Value),ND w A x (nodV x u)→Calls Try.prog 11 #[nodV x u] w fun e w'=>boolE (safeB x) w w' e
set_option maxHeartbeats 8000000 in
set_option maxRecDepth 100000 in
theorem safe_ (x:Nod):SafeC x:=by
 obtain ⟨m,hm⟩: ∃m,SizeOf.sizeOf x=m:=⟨_,rfl⟩
 induction m using Nat.strongRecOn generalizing x with
 |_ m ih0=>
  have ih: ∀z:Nod,SizeOf.sizeOf z<SizeOf.sizeOf x→SafeC z:=fun z hz=>ih0 _ (by omega) z rfl
  clear ih0 hm
  intro A w u h
  obtain ⟨v,e,hf,hr⟩:=h.open
  obtain ⟨a,c,rfl,hc⟩:=hr.is
  obtain rfl:u= .slice a x.l.length c:=by unfold nodV at e;simpa using e
  obtain ⟨n,hn⟩: ∃n,x.l.length=n:=⟨_,rfl⟩
  have n0:(n:Int)≤140737488355328:=by have:=hf.2.2.2.2.2;omega
  have n1:(n:Int)≤c:=by omega
  obtain ⟨W1,hW1⟩: ∃W,w.alloc (.cells #[.int .i64 x.kind,.int .i64 x.op,.string x.s,.string x.t,.int .i64 x.n,.slice a n c] 24)=W:=⟨_,rfl⟩
  obtain ⟨b1,hb1⟩: ∃b,w.heap.size=b:=⟨_,rfl⟩
  have t1:Ux.Touch (fun _=>False) w W1:=by rw [←hW1];exact (Ux.Touch.refl _ _).alloc _
  have r1:W1.heap[b1]? =some (.cells #[.int .i64 x.kind,.int .i64 x.op,.string x.s,.string x.t,.int .i64 x.n,.slice a n c] 24 (0,0)):=by rw [←hW1,←hb1];exact heap_alloc_new w _
  have c5:=cell_of_row W1 b1 5 _ _ (0,0) r1
  simp at c5
  have hgoal:nodV x (.slice a x.l.length c)= .agg #[.int .i64 x.kind,.int .i64 x.op,.string x.s,.string x.t,.int .i64 x.n,.slice a n c]:=by rw [hn];rfl
  rw [hgoal]
  have HT:=Lib.hid (And.intro t1 (And.intro (h.touch0 t1) (And.intro hn r1)))
  clear hgoal t1 r1 h hr e hf hc hn
  go_enter Try.func11,Try.ntmps11
  go_wp2_with (fail)
  clear hW1 hb1 c5
  go_loopg [8] n (fun gk s8 wr=> ∃i:Nat,s8= .int .i64 i∧i+gk=n∧Hid (safeL (x.l.take i)=true∧Ux.Touch (fun _=>False) W1 wr))
  case atStart=>exact ⟨0,rfl,by omega,Lib.hid ⟨by rw [List.take_zero,safeL],Ux.Touch.refl _ _⟩⟩
  case round=>
   obtain ⟨i,rfl,hig,HI⟩:=hrel
   have i0:(0:Int)≤i:=by omega
   have hnd:=HT.out.2.1.touch0 HI.out.2
   by_cases hlt:i<n
   ·obtain ⟨g',rfl⟩: ∃g',gk=g'+1:=⟨gk-1,by omega⟩
    have i1:(i:Int)<n:=by omega
    obtain ⟨y,hy⟩: ∃y,x.l[i]? =some y:=⟨_,List.getElem?_eq_getElem (by have:=HT.out.2.2.1;omega)⟩
    obtain ⟨v2,e2,_,hr2⟩:=hnd.open
    obtain rfl:v2= .slice a x.l.length c:=by unfold nodV at e2;simpa using e2.symm
    obtain ⟨g,off,ua,uc,rfl,hAg,_,y0,y1,y2,y3,y4,y5,hny⟩:=hr2.at hy
    have HC:=Lib.hid fun W (T:Ux.Touch (fun _=>False) wr W)=>ih y (Ux.Nod.lt_l (List.mem_of_getElem? hy)) A W _ (hny.touch0 T)
    obtain ⟨sb,hsb⟩: ∃b,safeB y=b:=⟨_,rfl⟩
    rw [hsb] at HC
    have HK:=Lib.hid (And.intro hy (And.intro hsb (And.intro hlt hig)))
    obtain ⟨b4,hb4⟩: ∃b,wr.heap.size=b:=⟨_,rfl⟩
    obtain ⟨Z4,hZ4⟩: ∃W,wr.alloc (.cells #[.int .i64 0,.int .i64 0,.string ⟨#[]⟩,.string ⟨#[]⟩,.int .i64 0,.slice none 0 0] 24)=W:=⟨_,rfl⟩
    have rz4:Z4.heap[b4]? =some (.cells #[.int .i64 0,.int .i64 0,.string ⟨#[]⟩,.string ⟨#[]⟩,.int .i64 0,.slice none 0 0] 24 (0,0)):=by rw [←hZ4,←hb4];exact heap_alloc_new wr _
    have tz4:Ux.Touch (fun _=>False) wr Z4:=by rw [←hZ4];exact (Ux.Touch.refl _ _).alloc _
    clear hnd hr2 e2 hy hlt hig hny hsb
    go_wp2_with (refine Ux.is_store 24 rfl ?_;refine Ux.store6 rfl 24 _ _ rfl b4 _ _ _ _ _ _ rfl rfl 24 _ _ _ _ _ _ rz4 (by kernel_rfl) (Ux.six_one _ _ _ _ _ _ _ _) ?_)
    intro W4 r4 t4
    have u4:Ux.Touch (fun _=>False) wr W4:=tz4.trans (R:=fun _=>False) t4 fun b hb e=>by omega
    have HU:=Lib.hid u4
    clear hZ4 rz4 tz4 t4 u4 hb4 y0 y1 y2 y3 y4 y5
    have x0:=row6 r4 0
    have x1:=row6 r4 1
    have x2:=row6 r4 2
    have x3:=row6 r4 3
    have x4:=row6 r4 4
    have x5:=row6 r4 5
    simp at x0 x1 x2 x3 x4 x5
    clear r4
    go_wp2_with (go_at_call 11;fail)
    have hcw:=HC.out W4 HU.out
    unfold nodV at hcw
    refine hcw.mono ?_
    clear hcw
    rintro e wn ⟨rfl,Tn⟩
    have HN:=Lib.hid (HU.out.trans Tn fun _ _ f=>f.elim)
    clear Tn HU x0 x1 x2 x3 x4 x5
    cases sb with
    |false=>
     go_wp2_with (fail)
     go_returns
     exact ⟨by rw [safeB_eq,safeL_bad HK.out.1 HK.out.2.1];rfl,(HT.out.1.trans HI.out.2 fun _ _ f=>f.elim).trans HN.out fun _ _ f=>f.elim⟩
    |true=>
     go_wp2_with (fail)
     go_roundg g'
     case measure=>omega
     case rel=>exact ⟨i+1,rfl,by have:=HK.out;omega,Lib.hid ⟨safeL_take HK.out.1 HI.out.1 HK.out.2.1,HI.out.2.trans HN.out fun _ _ f=>f.elim⟩⟩
   ·have i1: ¬(i:Int)<n:=by omega
    have hall:safeL x.l=true:=by
     have h1:=HI.out.1
     rwa [List.take_of_length_le (by have:=HT.out.2.2.1;omega)] at h1
    have HA:=Lib.hid (alone_ x A wr _ hnd)
    have heq:safeB x=aloneB x:=by rw [safeB_eq,hall];rfl
    have r1:=HI.out.2.heap HT.out.2.2.2 (fun f=>f)
    have HEQ:=Lib.hid heq
    have x0:=row6 r1 0
    have x1:=row6 r1 1
    have x2:=row6 r1 2
    have x3:=row6 r1 3
    have x4:=row6 r1 4
    have x5:=row6 r1 5
    simp at x0 x1 x2 x3 x4 x5
    clear hlt hall heq r1 hnd hig
    go_wp2_with (go_at_call 20;fail)
    have hcw:=HA.out
    unfold nodV at hcw
    rw [HT.out.2.2.1] at hcw
    refine hcw.mono ?_
    clear hcw
    rintro e wn ⟨rfl,Tn⟩
    have HN:=Lib.hid Tn
    clear Tn
    go_wp2_with (fail)
    go_returns
    exact ⟨by rw [HEQ.out];rfl,(HT.out.1.trans HI.out.2 fun _ _ f=>f.elim).trans HN.out fun _ _ f=>f.elim⟩
def leadN:List Nod→Nat
 | []=>0
 |y::l=>if safeB y then leadN l+1 else 0
theorem leadN_stop {l:List Nod} {i:Nat} (h: ∀j y,j<i→l[j]? =some y→safeB y=true) (hi:i≤l.length) (h2: ∀y,l[i]? =some y→safeB y=false):leadN l=i:=by
 induction l generalizing i with
 |nil=>have:i=0:=by simpa using hi
       subst this;rfl
 |cons y l ih=>
  cases i with
  |zero=>rw [leadN,h2 y rfl];rfl
  |succ i=>
   rw [leadN,h 0 y (by omega) rfl,if_pos rfl,ih (i:=i) (fun j z hj hz=>h (j+1) z (by omega) (by simpa using hz)) (by simpa using hi) fun z hz=>h2 z (by simpa using hz)]
def LeadR (l:List Nod) (w w':World) (e:Ending):Prop:=e= .returned (.int .i64 (leadN l:Int))∧Ux.Touch (fun _=>False) w w'
set_option maxHeartbeats 8000000 in
set_option maxRecDepth 100000 in
theorem lead_ (l:List Nod) (A:Nat→Prop) (w:World) (v:Value) (h:NRows w A l v) (hl:l.length≤140737488355328):Calls Try.prog 12 #[v] w fun e w'=>LeadR l w w' e:=by
 obtain ⟨a,c,rfl,hc⟩:=h.is
 obtain ⟨n,hn⟩: ∃n,l.length=n:=⟨_,rfl⟩
 have n0:(n:Int)≤140737488355328:=by omega
 have n1:(n:Int)≤c:=by omega
 have HT:=Lib.hid (And.intro h hn)
 rw [hn]
 clear h hl hc hn
 go_enter Try.func12,Try.ntmps12
 go_wp2_with (fail)
 go_loopg [3] n (fun gk s3 wr=> ∃i:Nat,s3= .int .i64 i∧i+gk=n∧Hid ((∀j y,j<i→l[j]? =some y→safeB y=true)∧Ux.Touch (fun _=>False) w wr))
 case atStart=>exact ⟨0,rfl,by omega,Lib.hid ⟨fun j y hj=>by omega,Ux.Touch.refl _ _⟩⟩
 case round=>
  obtain ⟨i,rfl,hig,HI⟩:=hrel
  have i0:(0:Int)≤i:=by omega
  by_cases hlt:i<n
  ·obtain ⟨g',rfl⟩: ∃g',gk=g'+1:=⟨gk-1,by omega⟩
   have i1:(i:Int)<n:=by omega
   obtain ⟨y,hy⟩: ∃y,l[i]? =some y:=⟨_,List.getElem?_eq_getElem (by have:=HT.out.2;omega)⟩
   obtain ⟨g,off,ua,uc,rfl,hAg,_,y0,y1,y2,y3,y4,y5,hny⟩:=(HT.out.1.touch0 HI.out.2).at hy
   obtain ⟨sb,hsb⟩: ∃b,safeB y=b:=⟨_,rfl⟩
   have HC:=Lib.hid (safe_ y A wr _ hny)
   rw [hsb] at HC
   have HK:=Lib.hid (And.intro hy (And.intro hsb (And.intro hlt hig)))
   clear hy hlt hig hny hsb
   go_wp2_with (go_at_call 11;fail)
   have hcw:=HC.out
   unfold nodV at hcw
   refine hcw.mono ?_
   clear hcw
   rintro e wn ⟨rfl,Tn⟩
   have HN:=Lib.hid Tn
   clear Tn y0 y1 y2 y3 y4 y5
   cases sb with
   |false=>
    go_wp2_with (fail)
    go_returns
    have hle:leadN l=i:=leadN_stop HI.out.1 (by have:=HK.out.2.2.1;have:=HT.out.2;omega) fun z hz=>by have e:=HK.out.1;rw [hz] at e;cases e;exact HK.out.2.1
    exact ⟨by rw [hle];rfl,HI.out.2.trans HN.out fun _ _ f=>f.elim⟩
   |true=>
    go_wp2_with (fail)
    go_roundg g'
    case measure=>omega
    case rel=>
     refine ⟨i+1,rfl,by have:=HK.out;omega,Lib.hid ⟨fun j z hj hz=> ?_,HI.out.2.trans HN.out fun _ _ f=>f.elim⟩⟩
     by_cases e:j=i
     ·subst e
      have e:=HK.out.1
      rw [hz] at e
      cases e
      exact HK.out.2.1
     ·exact HI.out.1 j z (by omega) hz
  ·have i1: ¬(i:Int)<n:=by omega
   have hle:leadN l=i:=leadN_stop HI.out.1 (by have:=HT.out.2;omega) fun z hz=>by rw [List.getElem?_eq_none (by have:=HT.out.2;omega)] at hz;cases hz
   have HL:=Lib.hid hle
   clear hlt hle
   go_wp2_with (fail)
   go_returns
   exact ⟨by rw [HL.out];rfl,HI.out.2⟩
end Go.Proofs.Ytmonfaepfbpdpaa
