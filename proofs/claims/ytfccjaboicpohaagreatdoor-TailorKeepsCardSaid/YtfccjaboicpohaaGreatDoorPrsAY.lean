/- A part of the proof that the statement holds for every input that it names. No other condition. -/
import Derived.Test.YtfccjaboicpohaaGreatDoorUxRulAY
import Derived.Test.YtfccjaboicpohaaGreatDoorUxKeyAY
import Derived.Test.YtfccjaboicpohaaGreatDoorSignAY
import Derived.Test.YtfccjaboicpohaaGreatDoorReadAY
set_option linter.unusedVariables false
set_option linter.unusedSimpArgs false
namespace Go.Proofs.YtfccjaboicpohaaGreatDoor
open Go.RowKit
open Ux (Row iv sv)
open Ux.Rules (isBl isSp blankS relS ltN)
structure RdAt (w:World) (q:Nat) (l:List Nat) (a:Option Addr) (n c:Nat) (va:Value) (i:Nat):Prop where
 blk:w.heap[q]? =some (.cells #[.slice a n c,va,.int .i64 (i:Int)] 220 (0,0))
 len:l.length=n
 le:i≤n
 big:n≤1000000000
 row:Row w 0 3 (.slice a n c) (iv (sv l))
theorem RdAt.touch {w w':World} {q:Nat} {l:List Nat} {a:Option Addr} {n c:Nat} {va:Value} {i:Nat} (h:RdAt w q l a n c va i) (T:Ux.Touch (fun _=>False) w w'):RdAt w' q l a n c va i:=
 ⟨T.heap h.blk (fun f=>f),h.len,h.le,h.big,h.row.touch0 T⟩
theorem RdAt.set {w:World} {q:Nat} {l:List Nat} {a:Option Addr} {n c:Nat} {va:Value} {i:Nat} (h:RdAt w q l a n c va i) (j:Nat) (hj:j≤n):RdAt (w.setCell ⟨q,2,none⟩ (.int .i64 (j:Int))) q l a n c va j∧Ux.Touch (fun b=>b=q) w (w.setCell ⟨q,2,none⟩ (.int .i64 (j:Int))):=by
 have T:Ux.Touch (fun b=>b=q) w (w.setCell ⟨q,2,none⟩ (.int .i64 (j:Int))):=(Ux.Touch.refl (fun b=>b=q) w).setCell (p:=⟨q,2,none⟩) (fun _=>rfl) _
 refine ⟨⟨Ux.setCell_row h.blk 2 _,h.len,hj,h.big,h.row.touch T fun b _ hb e=> ?_⟩,T⟩
 obtain ⟨cs,hk⟩:=h.row.kind hb
 rw [e,h.blk] at hk
 cases hk
theorem RdAt.cells {w:World} {q:Nat} {l:List Nat} {a:Option Addr} {n c:Nat} {va:Value} {i:Nat} (h:RdAt w q l a n c va i):w.cell? ⟨q,0,none⟩=some (.slice a n c)∧w.cell? ⟨q,1,none⟩=some va∧w.cell? ⟨q,2,none⟩=some (.int .i64 (i:Int))∧w.frozen? ⟨q,2,none⟩=false:=by
 refine ⟨?_,?_,?_,Ux.frozen_row h.blk 2⟩
 ·rw [cell_of_row w q 0 _ _ (0,0) h.blk];rfl
 ·rw [cell_of_row w q 1 _ _ (0,0) h.blk];rfl
 ·rw [cell_of_row w q 2 _ _ (0,0) h.blk];rfl
def rsgn (l:List Nat) (i:Nat):Int:=match l[i]? with
 |some x=>(x:Int)
 |none=> -1
set_option maxHeartbeats 4000000 in
theorem psign_ (q:Nat) (l:List Nat) (a:Option Addr) (n c:Nat) (va:Value) (i:Nat) (w:World) (h:RdAt w q l a n c va i):
 Calls Tryz.prog 139 #[.pointer (some ⟨q,0,none⟩)] w fun e w'=>e= .returned (.int .i64 (rsgn l i))∧Ux.Touch (fun _=>False) w w':=by
 obtain ⟨c0,-,c2,-⟩:=h.cells
 have HD:=Lib.hid (h.touch ((Ux.Touch.refl _ w).drew))
 have nl:=h.len
 have nb:=h.big
 have n0:(n:Int)≤1000000000:=by omega
 have i0:(0:Int)≤i:=by omega
 by_cases hi:i=n
 ·have hs:rsgn l i= -1:=by unfold rsgn;rw [List.getElem?_eq_none (by omega)]
  subst hi
  rw [hs]
  clear h HD nl nb hs
  go_enter Tryz.func139,Tryz.ntmps139
  go_upto_region 1 with (fail)
  refine Ux.wpr (fun _ w'=>w'.cell? ⟨q,0,none⟩=some (.slice a i c)∧w'.cell? ⟨q,2,none⟩=some (.int .i64 (i:Int))) (.q [0,1,2,4,5,6] (.h false [3,7] (.q [8,9] (.line [])))) ?_;repeat ((with_reducible refine Ux.qg ?_);refine Ux.qu ?_)
  go_wp2
  go_returns
  exact ⟨rfl,(Ux.Touch.refl _ w).drew⟩
 ·have hlt:i<n:=by have:=h.le;omega
  obtain ⟨x,hx⟩: ∃x,l[i]? =some x:=⟨_,List.getElem?_eq_getElem (by omega)⟩
  have hs:rsgn l i=(x:Int):=by unfold rsgn;rw [hx]
  obtain ⟨g,rfl,_,hc⟩:=h.row.at (Ux.iv_get (Ux.sv_get hx))
  rw [hs]
  have i1:(i:Int)<n:=by omega
  have q1:((i:Int)==(n:Int))=false:=by rw [beq_eq_false_iff_ne];omega
  clear h nl nb hs hx hi hlt
  go_enter Tryz.func139,Tryz.ntmps139
  go_upto_region 1 with (fail)
  refine Ux.wpr (fun _ w'=>w'.cell? ⟨q,0,none⟩=some (.slice (some ⟨g,0,none⟩) n c)∧w'.cell? ⟨q,2,none⟩=some (.int .i64 (i:Int))) (.q [0,1,2,4,5,6] (.h false [3,7] (.q [8,9] (.line [])))) ?_;repeat ((with_reducible refine Ux.qg ?_);refine Ux.qu ?_)
  obtain ⟨e0,-,e2,-⟩:=HD.out.cells
  have hc2:=((Ux.Touch.refl (fun _=>False) w).drew).cell hc (fun f=>f)
  go_upto_region 3 with (fail)
  refine Ux.wpr (fun _ w'=>w'.cell? ⟨q,0,none⟩=some (.slice (some ⟨g,0,none⟩) n c)∧w'.cell? ⟨q,2,none⟩=some (.int .i64 (i:Int))∧w'.cell? ⟨g,i,none⟩=some (.int .i64 (x:Int))) (.q [0,1,2,4,5,6] (.h false [3,7] (.q [8] (.h false [9] (.line [10]))))) ?_;repeat ((with_reducible refine Ux.qg ?_);refine Ux.qu ?_)
  go_wp2
  go_returns
  exact ⟨rfl,((Ux.Touch.refl _ w).drew).drew⟩
theorem drop_rsgn {l:List Nat} {i x:Nat} (h:l[i]? =some x):l.drop i=x::l.drop (i+1)∧rsgn l i=(x:Int):=by
 refine ⟨Ux.drop_get h,?_⟩
 unfold rsgn
 rw [h]
set_option maxHeartbeats 8000000 in
theorem pblank_ (q:Nat) (l:List Nat) (a:Option Addr) (n c:Nat) (va:Value) (i:Nat) (w:World) (h:RdAt w q l a n c va i):
 Calls Tryz.prog 138 #[.pointer (some ⟨q,0,none⟩)] w fun e w'=>e= .returned (.tuple #[])∧∃j,RdAt w' q l a n c va j∧i≤j∧l.drop j=blankS (l.drop i)∧Ux.Touch (fun b=>b=q) w w':=by
 have HS:=Lib.hid fun j W (hW:RdAt W q l a n c va j)=>psign_ q l a n c va j W hW
 have HH:=Lib.hid h
 have n0:(n:Int)≤1000000000:=by have:=h.big;omega
 obtain ⟨R,hR⟩: ∃R,blankS (l.drop i)=R:=⟨_,rfl⟩
 rw [hR]
 have HR:=Lib.hid hR
 clear h hR
 go_enter Tryz.func138,Tryz.ntmps138
 go_wp2_with (go_at_call 139;fail)
 refine (HS.out i w HH.out).mono ?_
 rintro e w2 ⟨rfl,T2⟩
 have H2:=Lib.hid (And.intro (HH.out.touch T2) T2)
 clear T2
 go_wp2_with (fail)
 go_loopg [2] (n-i) (fun gk s2 wr=> ∃j:Nat,s2= .int .i64 (rsgn l j)∧n-j≤gk∧Hid (RdAt wr q l a n c va j∧i≤j∧blankS (l.drop j)=R∧Ux.Touch (fun b=>b=q) w wr))
 case atStart=>exact ⟨i,rfl,Nat.le_refl _,Lib.hid ⟨H2.out.1,Nat.le_refl _,HR.out,H2.out.2.mono (fun _ _ f=>f.elim)⟩⟩
 case round=>
  obtain ⟨j,rfl,hgk,HI⟩:=hrel
  have j0:(0:Int)≤j:=by omega
  by_cases hb: ∃x,l[j]? =some x∧isBl x=true
  ·obtain ⟨x,hx,hbl⟩:=hb
   obtain ⟨hd,hs⟩:=drop_rsgn hx
   have hjn:j<n:=by have:=(List.getElem?_eq_some_iff.1 hx).1;have:=HI.out.1.len;omega
   have j1:(j:Int)<n:=by omega
   obtain ⟨g',rfl⟩: ∃g',gk=g'+1:=⟨gk-1,by omega⟩
   obtain ⟨c0,c1,c2,f2⟩:=HI.out.1.cells
   obtain ⟨r3,t3⟩:=HI.out.1.set (j+1) hjn
   have pc:((j+1:Nat):Int)=(j:Int)+1:=by omega
   rw [pc] at r3 t3
   have hnew:blankS (l.drop (j+1))=R:=by
    have h1:=HI.out.2.2.1
    rw [hd,Ux.Rules.blankS_cons,hbl] at h1
    exact h1
   obtain ⟨w3,hw3⟩: ∃w3,wr.setCell ⟨q,2,none⟩ (.int .i64 ((j:Int)+1))=w3:=⟨_,rfl⟩
   rw [hw3] at r3 t3
   have H3:=Lib.hid (And.intro r3 (And.intro hnew (HI.out.2.2.2.trans t3 fun _ _ h=>h)))
   have hw:(x:Int)=32∨((x:Int)==32)=false∧(x:Int)=10:=by
    unfold isBl at hbl
    simp at hbl
    rcases hbl with h|h
    ·exact .inl (by omega)
    ·refine .inr ⟨by rw [beq_eq_false_iff_ne];omega,by omega⟩
   rw [hs]
   clear hx hbl hd hs hnew r3 t3 hjn
   rcases hw with hw|⟨hw2,hw⟩
   all_goals
    rw [hw] at*
    go_wp2_with (go_at_call 139;fail)
    refine (HS.out (j+1) w3 H3.out.1).mono ?_
    rintro e w4 ⟨rfl,T4⟩
    have H4:=Lib.hid (And.intro (H3.out.1.touch T4) (H3.out.2.2.trans T4 fun _ _ f=>f.elim))
    clear T4 c0 c1 c2 f2 hw3
    go_wp2_with (fail)
    go_roundg g'
    case measure=>omega
    case rel=>exact ⟨j+1,rfl,by omega,Lib.hid ⟨H4.out.1,by have:=HI.out.2.1;omega,H3.out.2.1,H4.out.2⟩⟩
  ·have hend:l.drop j=R:=by
    have h1:=HI.out.2.2.1
    cases hx:l[j]? with
    |none=>
     rw [List.drop_eq_nil_of_le (List.getElem?_eq_none_iff.1 hx)] at h1⊢
     exact h1
    |some x=>
     have hbl:isBl x=false:=by
      cases hbl:isBl x with
      |false=>rfl
      |true=>exact absurd ⟨x,hx,hbl⟩ hb
     rw [(drop_rsgn hx).1,Ux.Rules.blankS_cons,hbl] at h1
     rw [(drop_rsgn hx).1]
     exact h1
   have k1:(rsgn l j==32)=false∧(rsgn l j==10)=false:=by
    unfold rsgn
    cases hx:l[j]? with
    |none=>exact ⟨rfl,rfl⟩
    |some x=>
     have hbl:isBl x=false:=by
      cases hbl:isBl x with
      |false=>rfl
      |true=>exact absurd ⟨x,hx,hbl⟩ hb
     unfold isBl at hbl
     simp at hbl
     dsimp only
     constructor
     ·rw [beq_eq_false_iff_ne];omega
     ·rw [beq_eq_false_iff_ne];omega
   obtain ⟨k1,k2⟩:=k1
   obtain ⟨X,hX⟩: ∃X,rsgn l j=X:=⟨_,rfl⟩
   rw [hX] at k1 k2⊢
   have HE:=Lib.hid hend
   clear hb hend hX
   go_wp2
   go_returns
   exact ⟨rfl,j,HI.out.1,HI.out.2.1,HE.out,HI.out.2.2.2⟩
end Go.Proofs.YtfccjaboicpohaaGreatDoor
namespace Go.Proofs.YtfccjaboicpohaaGreatDoor
open Go.RowKit
open Ux (Row iv sv Grow)
open Ux.Rules (isBl isSp blankS relS ltN seqG seqS)
theorem RdAt.touchR {R:Nat→Prop} {w w':World} {q:Nat} {l:List Nat} {a:Option Addr} {n c:Nat} {va:Value} {i:Nat} (h:RdAt w q l a n c va i) (T:Ux.Touch R w w') (hq: ¬R q) (hR: ∀b,(Value.slice a n c).ownBlock=some b→¬R b):RdAt w' q l a n c va i:=
 ⟨T.heap h.blk hq,h.len,h.le,h.big,h.row.touch T fun b _ hb=>hR b hb⟩
theorem RdAt.below {w:World} {q:Nat} {l:List Nat} {a:Option Addr} {n c:Nat} {va:Value} {i:Nat} (h:RdAt w q l a n c va i):q<w.heap.size∧∀b,(Value.slice a n c).ownBlock=some b→b<w.heap.size:=
 ⟨Ux.lt_of_heap h.blk,fun b hb=>by
   obtain ⟨cs,hk⟩:=h.row.kind hb
   exact Ux.lt_of_heap hk⟩
set_option maxHeartbeats 4000000 in
theorem pspecial_ (c:Nat) (w:World):Calls Tryz.prog 214 #[.int .i64 (c:Int)] w fun e w'=>e= .returned (.bool (isSp c||c==92))∧w'=w:=by
 have hc:c=32∨c=10∨c=38∨c=60∨c=61∨c=47∨c=92∨(((c:Int)==32)=false∧((c:Int)==10)=false∧((c:Int)==38)=false∧((c:Int)==60)=false∧((c:Int)==61)=false∧((c:Int)==47)=false∧((c:Int)==92)=false∧(isSp c||c==92)=false):=by
  unfold isSp
  simp only [beq_eq_false_iff_ne,Bool.or_eq_false_iff]
  omega
 rcases hc with rfl|rfl|rfl|rfl|rfl|rfl|rfl|⟨h1,h2,h3,h4,h5,h6,h7,h8⟩
 all_goals first
  |(rw [h8]
    clear h8
    go_enter Tryz.func214,Tryz.ntmps214
    go_wp2
    go_returns
    exact ⟨rfl,rfl⟩)
  |(go_enter Tryz.func214,Tryz.ntmps214
    go_wp2
    go_returns
    exact ⟨rfl,rfl⟩)
theorem ltN_step {n:Nat} {r:List Nat} {k:Nat} (hk:k<n) (h: ∀j,j<k→r[j]? =some 60):ltN n r=k+ltN (n-k) (r.drop k):=by
 induction k generalizing n r with
 |zero=>simp
 |succ k ih=>
  obtain ⟨m,rfl⟩: ∃m,n=m+1:=⟨n-1,by omega⟩
  cases r with
  |nil=>have:=h 0 (by omega);simp at this
  |cons x r=>
   have hx:=h 0 (by omega)
   simp at hx
   subst hx
   rw [show ltN (m+1) (60::r)=ltN m r+1 from by rw [ltN,if_pos rfl],ih (n:=m) (r:=r) (by omega) (fun j hj=>by simpa using h (j+1) (by omega)),List.drop_succ_cons]
   rw [show m+1-(k+1)=m-k by omega]
   omega
theorem head_rsgn (l:List Nat) (i:Nat):(l.drop i).head? =l[i]? :=by
 rw [List.head?_drop]
set_option maxHeartbeats 8000000 in
set_option maxRecDepth 100000 in
theorem prel_ (q:Nat) (l:List Nat) (a:Option Addr) (n c:Nat) (va:Value) (i:Nat) (w:World) (h:RdAt w q l a n c va i):
 Calls Tryz.prog 181 #[.pointer (some ⟨q,0,none⟩)] w fun e w'=>e= .returned (.int .i64 ((relS (l.drop i)).1:Nat))∧∃j,RdAt w' q l a n c va j∧l.drop j=(relS (l.drop i)).2∧Ux.Touch (fun b=>b=q) w w':=by
 have HS:=Lib.hid fun j W (hW:RdAt W q l a n c va j)=>psign_ q l a n c va j W hW
 have HH:=Lib.hid h
 have n0:(n:Int)≤1000000000:=by have:=h.big;omega
 have i0:(0:Int)≤i:=by omega
 have iN:(i:Int)≤n:=by have:=h.le;omega
 have hln:=h.len
 have hcase:(∃x,(x=38∨x=61)∧l[i]? =some x)∨((rsgn l i==38)=false∧(rsgn l i==61)=false∧(l.drop i).head?≠some 38∧(l.drop i).head?≠some 61):=by
  rw [head_rsgn]
  unfold rsgn
  cases hx:l[i]? with
  |none=>exact .inr ⟨rfl,rfl,by simp,by simp⟩
  |some x=>
   by_cases h1:x=38∨x=61
   ·exact .inl ⟨x,h1,rfl⟩
   ·refine .inr ⟨?_,?_,?_,?_⟩
    ·dsimp only;rw [beq_eq_false_iff_ne];omega
    ·dsimp only;rw [beq_eq_false_iff_ne];omega
    ·intro e;cases e;omega
    ·intro e;cases e;omega
 clear h
 rcases hcase with ⟨x,hx1,hx⟩|⟨k1,k2,k3,k4⟩
 ·obtain ⟨hd,hsg⟩:=drop_rsgn hx
  have hin:i<n:=by have:=(List.getElem?_eq_some_iff.1 hx).1;omega
  have hrel:relS (l.drop i)=((if x=38 then 1 else 5:Nat),l.drop (i+1)):=by
   unfold relS
   rw [hd]
   rcases hx1 with rfl|rfl
   ·rfl
   ·rfl
  have pc:((i+1:Nat):Int)=(i:Int)+1:=by omega
  have HSET:=Lib.hid fun (w:World) (hW:RdAt w q l a n c va i)=>hW.set (i+1) hin
  rw [pc] at HSET
  have HR:=Lib.hid hrel
  have HSG:=HS.out i
  rw [hsg] at HSG
  have HSI:=Lib.hid HSG
  clear hx hd hsg hin hrel HSG hln
  rcases hx1 with rfl|rfl
  all_goals
   go_enter Tryz.func181,Tryz.ntmps181
   go_wp2_with (go_at_call 139;fail)
   refine (HSI.out w HH.out).mono ?_
   rintro e w2 ⟨rfl,T2⟩
   have H2:=Lib.hid (And.intro (HH.out.touch T2) T2)
   clear T2
   obtain ⟨c0,c1,c2,f2⟩:=H2.out.1.cells
   obtain ⟨r3,t3⟩:=HSET.out w2 H2.out.1
   obtain ⟨w3,hw3⟩: ∃w3,w2.setCell ⟨q,2,none⟩ (.int .i64 ((i:Int)+1))=w3:=⟨_,rfl⟩
   rw [hw3] at r3 t3
   have H3:=Lib.hid (And.intro r3 ((H2.out.2.mono (fun _ _ f=>f.elim):Ux.Touch (fun b=>b=q) w w2).trans t3 fun _ _ h=>h))
   clear r3 t3
   go_wp2
   go_returns
   rw [HR.out]
   exact ⟨rfl,i+1,H3.out.1,rfl,H3.out.2⟩
 ·have hrel:relS (l.drop i)=if ltN 3 (l.drop i)=0 then (0,l.drop i) else (1+ltN 3 (l.drop i),l.drop (i+ltN 3 (l.drop i))):=by
   unfold relS
   rw [if_neg k3,if_neg k4,List.drop_drop]
  have HR:=Lib.hid hrel
  obtain ⟨X,hX⟩: ∃X,rsgn l i=X:=⟨_,rfl⟩
  have HSG:=HS.out i
  rw [hX] at HSG k1 k2
  have HSI:=Lib.hid HSG
  have HLN:=Lib.hid hln
  clear hrel k3 k4 HSG hX hln
  go_enter Tryz.func181,Tryz.ntmps181
  go_wp2_with (go_at_call 139;fail)
  refine (HSI.out w HH.out).mono ?_
  rintro e w2 ⟨rfl,T2⟩
  have H2:=Lib.hid (And.intro (HH.out.touch T2) (T2.mono (fun _ _ f=>f.elim):Ux.Touch (fun b=>b=q) w w2))
  clear T2
  go_wp2_with (fail)
  go_loopg [3] 4 (fun gk s3 wr=> ∃k:Nat,s3= .int .i64 k∧k+gk=4∧k≤3∧Hid (RdAt wr q l a n c va (i+k)∧(∀j,j<k→(l.drop i)[j]? =some 60)∧Ux.Touch (fun b=>b=q) w wr))
  case atStart=>exact ⟨0,rfl,rfl,by omega,Lib.hid ⟨H2.out.1,fun j h=>by omega,H2.out.2⟩⟩
  case round=>
   obtain ⟨k,rfl,hkg,hk3,HI⟩:=hrel
   have kk0:(0:Int)≤k:=by omega
   have hfin: ∀K:Nat,ltN 3 (l.drop i)=K→K=k→((relS (l.drop i)).1=if k=0 then 0 else 1+k)∧l.drop (i+k)=(relS (l.drop i)).2:=fun K h1 h2=>by
    subst h2
    rw [HR.out,h1]
    by_cases h0:K=0
    ·subst h0;simp
    ·rw [if_neg h0,if_neg h0];exact ⟨rfl,rfl⟩
   have hend:ltN 3 (l.drop i)=k→bodyPost Tryz.prog Tryz.f181 (fun e w'=>e= .returned (.int .i64 ((relS (l.drop i)).1:Nat))∧∃j,RdAt w' q l a n c va j∧l.drop j=(relS (l.drop i)).2∧Ux.Touch (fun b=>b=q) w w') Exit.ret ⟨#[],[]⟩ wr→True:=fun _ _=>trivial
   clear hend
   by_cases hgo:k<3∧l[i+k]? =some 60
   ·obtain ⟨hk,hx⟩:=hgo
    obtain ⟨g',rfl⟩: ∃g',gk=g'+1:=⟨gk-1,by omega⟩
    have k1':(k:Int)<3:=by omega
    obtain ⟨hd,hsg⟩:=drop_rsgn hx
    have HSG:=HS.out (i+k) wr HI.out.1
    rw [hsg] at HSG
    have HSI:=Lib.hid HSG
    have hin:i+k<n:=by have:=(List.getElem?_eq_some_iff.1 hx).1;have:=HLN.out;omega
    have hxx:(l.drop i)[k]? =some 60:=by rw [List.getElem?_drop];exact hx
    have HXX:=Lib.hid hxx
    have HSET:=Lib.hid fun (w:World) (hW:RdAt w q l a n c va (i+k))=>hW.set (i+k+1) hin
    have pc:((i+k+1:Nat):Int)=(i:Int)+(k:Int)+1:=by omega
    rw [pc] at HSET
    have b0:(0:Int)≤(i:Int)+k:=by omega
    have b1:(i:Int)+(k:Int)≤n:=by omega
    clear hx hd hsg HSG hin hxx hfin
    go_wp2_with (go_at_call 139;fail)
    refine HSI.out.mono ?_
    rintro e w4 ⟨rfl,T4⟩
    have H4:=Lib.hid (And.intro (HI.out.1.touch T4) (HI.out.2.2.trans T4 fun _ _ f=>f.elim))
    clear T4
    obtain ⟨c0,c1,c2,f2⟩:=H4.out.1.cells
    obtain ⟨r3,t3⟩:=HSET.out w4 H4.out.1
    obtain ⟨w5,hw5⟩: ∃w3,w4.setCell ⟨q,2,none⟩ (.int .i64 ((i:Int)+(k:Int)+1))=w3:=⟨_,rfl⟩
    rw [hw5] at r3 t3
    have H5:=Lib.hid (And.intro r3 (H4.out.2.trans t3 fun _ _ h=>h))
    clear r3 t3
    go_wp2
    go_roundg g'
    case measure=>omega
    case rel=>
     refine ⟨k+1,by congr 1,by omega,by omega,Lib.hid ⟨H5.out.1,fun j hj=> ?_,H5.out.2⟩⟩
     by_cases e:j=k
     ·subst e;exact HXX.out
     ·exact HI.out.2.1 j (by omega)
   ·have hk:ltN 3 (l.drop i)=k:=by
     by_cases hk3':k<3
     ·rw [ltN_step hk3' HI.out.2.1]
      obtain ⟨m,hm⟩: ∃m,3-k=m+1:=⟨2-k,by omega⟩
      rw [hm,List.drop_drop]
      cases hd:l.drop (i+k) with
      |nil=>simp [ltN]
      |cons x r=>
       have hx:l[i+k]? =some x:=by rw [←head_rsgn,hd];rfl
       unfold ltN
       rw [if_neg (fun e=>hgo ⟨hk3',by rw [hx,e]⟩)]
       omega
     ·have h3:k=3:=by omega
      subst h3
      have:=ltN_step (n:=4) (r:=l.drop i) (k:=3) (by omega) HI.out.2.1
      have h4:=Ux.Rules.ltN_le 3 (l.drop i)
      have h5: ∀r:List Nat,(∀j,j<3→r[j]? =some 60)→ltN 3 r=3:=fun r hr=>by
       have h0:=hr 0 (by omega)
       have h1:=hr 1 (by omega)
       have h2:=hr 2 (by omega)
       match r,h0,h1,h2 with
       |x::y::z::r,h0,h1,h2=>
        simp at h0 h1 h2
        subst h0 h1 h2
        simp [ltN]
      exact h5 _ HI.out.2.1
    obtain ⟨e1,e2⟩:=hfin _ hk rfl
    have HE:=Lib.hid (And.intro e1 e2)
    clear hfin hk e1 e2
    by_cases hk3':k<3
    ·have k1':(k:Int)<3:=by omega
     have hng:(rsgn l (i+k)==60)=false:=by
      unfold rsgn
      cases hx:l[i+k]? with
      |none=>rfl
      |some x=>dsimp only;rw [beq_eq_false_iff_ne];intro e;exact hgo ⟨hk3',by rw [hx];congr 1;omega⟩
     obtain ⟨Y,hY⟩: ∃Y,rsgn l (i+k)=Y:=⟨_,rfl⟩
     have HSG:=HS.out (i+k) wr HI.out.1
     rw [hY] at HSG hng
     have HSI:=Lib.hid HSG
     clear HSG hY hgo hk3'
     go_wp2_with (go_at_call 139;fail)
     refine HSI.out.mono ?_
     rintro e w4 ⟨rfl,T4⟩
     have H4:=Lib.hid (And.intro (HI.out.1.touch T4) (HI.out.2.2.trans T4 fun _ _ f=>f.elim))
     clear T4
     by_cases h0:k=0
     ·subst h0
      go_wp2
      go_returns
      rw [HE.out.1]
      exact ⟨rfl,i+0,H4.out.1,HE.out.2,H4.out.2⟩
     ·have h0':((k:Int)==0)=false:=by rw [beq_eq_false_iff_ne];omega
      go_wp2
      go_returns
      rw [HE.out.1,if_neg h0]
      have e9:((1+k:Nat):Int)=2+(k:Int)-1:=by omega
      rw [e9]
      exact ⟨rfl,i+k,H4.out.1,HE.out.2,H4.out.2⟩
    ·obtain rfl:k=3:=by omega
     clear hgo hk3'
     go_wp2
     go_returns
     rw [HE.out.1]
     exact ⟨rfl,i+3,HI.out.1,HE.out.2,HI.out.2.2⟩
end Go.Proofs.YtfccjaboicpohaaGreatDoor
namespace Go.Proofs.YtfccjaboicpohaaGreatDoor
open Go.RowKit
open Ux (Row iv sv Grow)
open Ux.Rules (isBl isSp blankS relS ltN seqG seqS)
theorem seqG_nil (out:List Nat):seqG [] out=(some out,[]):=by unfold seqG;rfl
theorem seqG_sp {x:Nat} (h:isSp x=true) (r out:List Nat):seqG (x::r) out=(some out,x::r):=by
 cases r<;>(unfold seqG;rw [if_pos h])
theorem seqG_full {x:Nat} (h:isSp x=false) (r out:List Nat) (h3:out.length=3):seqG (x::r) out=(none,x::r):=by
 cases r<;>(unfold seqG;rw [if_neg (by rw [h];simp),if_pos h3])
theorem isSp92:isSp 92=false:=rfl
theorem seqG_esc0 (out:List Nat) (h3:out.length≠3):seqG [92] out=(none,[]):=by
 unfold seqG
 rw [if_neg (by rw [isSp92];simp),if_neg h3,if_pos rfl]
theorem seqG_esc (d:Nat) (r out:List Nat) (h3:out.length≠3):seqG (92::d::r) out=seqG r (out++ [d]):=by
 conv=>lhs;unfold seqG
 rw [if_neg (by rw [isSp92];simp),if_neg h3,if_pos rfl]
theorem seqG_one {x:Nat} (h:isSp x=false) (hx:x≠92) (r out:List Nat) (h3:out.length≠3):seqG (x::r) out=seqG r (out++ [x]):=by
 cases r with
 |nil=>
  conv=>lhs;unfold seqG
  rw [if_neg (by rw [h];simp),if_neg h3,if_neg hx,seqG_nil]
 |cons d r=>
  conv=>lhs;unfold seqG
  rw [if_neg (by rw [h];simp),if_neg h3,if_neg hx]
def SeqR (w:World) (lo:Nat) (o:Option (List Nat)) (e:Ending):Prop:=match o with
 |some s=> ∃v,e= .returned (.tuple #[v,.bool true])∧Row w lo 3 v (iv (sv s))
 |none=> ∃a n c,e= .returned (.tuple #[.slice a n c,.bool false])
theorem adv_ {W:World} {q:Nat} {l:List Nat} {a:Option Addr} {n c:Nat} {va:Value} {J:Nat} (h:RdAt W q l a n c va J) (hJ:J<n) {lo o c5:Nat} {a5:Option Addr} {out:List Nat} (hG:Grow W lo 3 (.slice a5 o c5) (iv (sv out))) (ho:out.length=o) (ho3:o≤3) (hlo:lo≤W.heap.size) (hq:q<lo) (hl: ∀b,(Value.slice a n c).ownBlock=some b→b<lo) (x:Nat):
 ∃W3 W4 a' c',W.setCell ⟨q,2,none⟩ (.int .i64 ((J:Int)+1))=W3∧(∀ty,(Builtin.append_ #[23,23] ty #[.slice a5 o c5,.slice (some ⟨W3.heap.size,0,none⟩) 1 1]).run Tryz.prog (W3.alloc (.cells #[.int .i64 (x:Int)] 3))= .ok (.slice a' (o+1:Nat) c') W4)∧
  RdAt W4 q l a n c va (J+1)∧Grow W4 lo 3 (.slice a' (o+1:Nat) c') (iv (sv (out++ [x])))∧Ux.Touch (fun b=>b=q∨lo≤b) W W4:=by
 obtain ⟨r3,t3⟩:=h.set (J+1) hJ
 have pc:((J+1:Nat):Int)=(J:Int)+1:=by omega
 rw [pc] at r3 t3
 obtain ⟨W3,hW3⟩: ∃W3,W.setCell ⟨q,2,none⟩ (.int .i64 ((J:Int)+1))=W3:=⟨_,rfl⟩
 rw [hW3] at r3 t3
 have hG3:=hG.touch t3 (fun b hb e=>by omega)
 obtain ⟨r,W4,hrun,hG4,hT4⟩:=appI hG3 1 [.int .i64 (x:Int)] rfl (by simp [Value.oneCell']) (Nat.le_trans hlo t3.size) (by rw [Ux.iv_length,Ux.sv_length];omega)
 have e1:iv (sv out)++ [Value.int .i64 (x:Int)]=iv (sv (out++ [x])):=by
  rw [Ux.sv_append,show∀a b,iv (a++b)=iv a++iv b from fun a b=>List.map_append]
  rfl
 rw [e1] at hG4
 obtain ⟨a',c',rfl,_⟩:=hG4.row.is
 have e2:(iv (sv (out++ [x]))).length=o+1:=by rw [Ux.iv_length,Ux.sv_length,List.length_append,ho];rfl
 rw [e2] at hG4 hrun
 refine ⟨W3,W4,a',c',hW3,hrun,r3.touchR hT4 (fun hh=>by have:=hh.1;omega) (fun b hb hh=>by have:=hh.1;have:=hl b hb;omega),hG4,?_⟩
 exact (t3.mono (fun b _ e=> .inl e):Ux.Touch (fun b=>b=q∨lo≤b) W W3).trans hT4 (fun b _ hh=> .inr hh.1)
set_option maxHeartbeats 16000000 in
set_option maxRecDepth 100000 in
theorem pseq_ (q:Nat) (l:List Nat) (a:Option Addr) (n c:Nat) (va:Value) (i:Nat) (w:World) (h:RdAt w q l a n c va i):
 Calls Tryz.prog 182 #[.pointer (some ⟨q,0,none⟩)] w fun e w'=>SeqR w' w.heap.size (seqS (l.drop i)).1 e∧∃j,RdAt w' q l a n c va j∧l.drop j=(seqS (l.drop i)).2∧Ux.Touch (fun b=>b=q) w w':=by
 have HS:=Lib.hid fun j W (hW:RdAt W q l a n c va j)=>psign_ q l a n c va j W hW
 have HB:=Lib.hid (pblank_ q l a n c va i w h)
 have HSP:=Lib.hid fun (x:Nat) W=>pspecial_ x W
 have n0:(n:Int)≤1000000000:=by have:=h.big;omega
 have HL:=Lib.hid (And.intro h.len (And.intro h.below.1 (And.intro h.below.2 h.big)))
 have hseq: ∀RES:Option (List Nat)×List Nat,seqG (blankS (l.drop i)) []=RES→seqS (l.drop i)=match RES with
  |(some out,r')=>if out= [] then (none,r') else (some out,r')
  |(none,r')=>(none,r'):=fun RES hR=>by
  unfold seqS
  rw [hR]
  rcases RES with ⟨o,r⟩
  cases o<;>rfl
 obtain ⟨RES,hRES⟩: ∃RES,seqG (blankS (l.drop i)) []=RES:=⟨_,rfl⟩
 have HQ:=Lib.hid (And.intro (hseq RES hRES) hRES)
 clear h hseq hRES
 go_enter Tryz.func182,Tryz.ntmps182
 go_wp2_with (go_at_call 138;fail)
 refine HB.out.mono ?_
 rintro e w2 ⟨rfl,j0,R2,_,hj0,T2⟩
 have H2:=Lib.hid (And.intro R2 (And.intro hj0 T2))
 clear R2 hj0 T2
 go_wp2_with (fail)
 refine (HS.out j0 w2 H2.out.1).mono ?_
 rintro e w3 ⟨rfl,T3⟩
 have H3:=Lib.hid (And.intro (H2.out.1.touch T3) (H2.out.2.2.trans T3 fun _ _ f=>f.elim))
 clear T3
 go_wp2_with (fail)
 go_loopg [5,6] n (fun gk s5 s6 wr=> ∃j out,s6= .int .i64 (rsgn l j)∧n-j≤gk∧Hid (RdAt wr q l a n c va j∧Grow wr w.heap.size 3 s5 (iv (sv out))∧out.length≤3∧seqG (l.drop j) out=RES∧Ux.Touch (fun b=>b=q) w wr))
 case atStart=>exact ⟨j0,[],rfl,by omega,Lib.hid ⟨H3.out.1,Grow.nil _ _ _,by simp,by rw [H2.out.2.1,HQ.out.2],H3.out.2⟩⟩
 case round=>
  obtain ⟨j,out,rfl,hgk,HI⟩:=hrel
  have jz:(0:Int)≤j:=by omega
  have jn:(j:Int)≤n:=by have:=HI.out.1.le;omega
  obtain ⟨o,ho⟩: ∃o,out.length=o:=⟨_,rfl⟩
  obtain ⟨a5,c5,rfl,_⟩:=HI.out.2.1.row.is
  rw [Ux.iv_length,Ux.sv_length,ho]
  have hg0:=HI.out.2.1
  rw [Ux.iv_length,Ux.sv_length,ho] at hg0
  have HG:=Lib.hid hg0
  clear hg0
  have HO:=Lib.hid ho
  have o0:(o:Int)≤3:=by have:=HI.out.2.2.1;omega
  clear ho
  have hexit: ∀r,l.drop j=r→RES=(some out,r)→(seqS (l.drop i))=if out= [] then (none,l.drop j) else (some out,l.drop j):=fun r h1 h2=>by
   rw [HQ.out.1,h2,h1]
  have HEX:=Lib.hid hexit
  clear hexit
  have stop:(∀x r,l.drop j=x::r→isSp x=true)→RES=(some out,l.drop j):=fun h=>by
   rw [←HI.out.2.2.2.1]
   cases hd:l.drop j with
   |nil=>exact seqG_nil out
   |cons x r=>exact seqG_sp (h x r hd) r out
  cases hx:l[j]? with
  |none=>
   have hnil:l.drop j= []:=List.drop_eq_nil_of_le (List.getElem?_eq_none_iff.1 hx)
   have hs:rsgn l j= -1:=by unfold rsgn;rw [hx]
   have hres:=HEX.out _ rfl (stop (fun x r e=>by rw [hnil] at e;cases e))
   have HR:=Lib.hid hres
   obtain ⟨v',hr3,hb3,hc3⟩:=clip_row HI.out.2.1.row
   obtain ⟨av,cv,rfl,_⟩:=hr3.is
   rw [Ux.iv_length,Ux.sv_length,HO.out] at hr3 hc3
   have HC:=Lib.hid hc3
   have HV:=Lib.hid hr3
   rw [hs]
   clear hx hnil hs hres stop hr3 hb3 hc3
   by_cases h0:o=0
   ·have hz:decide ((0:Int)<(o:Int))=false:=by simp [h0]
    have hz2:decide (0<o)=false:=by simp [h0]
    have HR2:=Lib.hid (show seqS (l.drop i)=(none,l.drop j) by rw [HR.out,if_pos (List.eq_nil_of_length_eq_zero (by rw [HO.out];exact h0))])
    clear h0
    go_wp2_with (go_at_call 144;refine HC.out.mono ?_;rintro e w' ⟨rfl,rfl⟩)
    go_returns
    rw [HR2.out]
    exact ⟨⟨_,_,_,rfl⟩,j,HI.out.1,rfl,HI.out.2.2.2.2⟩
   ·have hz:decide ((0:Int)<(o:Int))=true:=by simp;omega
    have hz2:decide (0<o)=true:=by simp;omega
    have HR2:=Lib.hid (show seqS (l.drop i)=(some out,l.drop j) by rw [HR.out,if_neg (fun e=>h0 (by rw [←HO.out,e];rfl))])
    clear h0
    go_wp2_with (go_at_call 144;refine HC.out.mono ?_;rintro e w' ⟨rfl,rfl⟩)
    go_returns
    rw [HR2.out]
    exact ⟨⟨_,rfl,HV.out⟩,j,HI.out.1,rfl,HI.out.2.2.2.2⟩
  |some x=>
   obtain ⟨hd,hs⟩:=drop_rsgn hx
   have hjn:j<n:=by have:=(List.getElem?_eq_some_iff.1 hx).1;have:=HL.out.1;omega
   have x0:(0:Int)≤x:=by omega
   rw [hs]
   cases hsp:isSp x with
   |true=>
    have hres:=HEX.out _ rfl (stop (fun y r e=>by rw [hd] at e;cases e;exact hsp))
    have HR:=Lib.hid hres
    have hn92:((x:Int)==92)=false:=by
     rw [beq_eq_false_iff_ne]
     intro e
     have:x=92:=by omega
     rw [this] at hsp
     cases hsp
    have HSX:=HSP.out x
    rw [hsp,Bool.true_or] at HSX
    have HSX2:=Lib.hid HSX
    obtain ⟨v',hr3,hb3,hc3⟩:=clip_row HI.out.2.1.row
    obtain ⟨av,cv,rfl,_⟩:=hr3.is
    rw [Ux.iv_length,Ux.sv_length,HO.out] at hr3 hc3
    have HC:=Lib.hid hc3
    have HV:=Lib.hid hr3
    clear hx hd hs hsp hres stop hr3 hb3 hc3 HSX hjn
    go_wp2_with (go_at_call 214;fail)
    refine (HSX2.out _).mono ?_
    rintro e w4 ⟨rfl,hw4⟩
    obtain rfl:wr=w4:=hw4.symm
    by_cases h0:o=0
    ·have hz:decide ((0:Int)<(o:Int))=false:=by simp [h0]
     have hz2:decide (0<o)=false:=by simp [h0]
     have HR2:=Lib.hid (show seqS (l.drop i)=(none,l.drop j) by rw [HR.out,if_pos (List.eq_nil_of_length_eq_zero (by rw [HO.out];exact h0))])
     clear h0
     go_wp2_with (go_at_call 144;refine HC.out.mono ?_;rintro e w' ⟨rfl,rfl⟩)
     go_returns
     rw [HR2.out]
     exact ⟨⟨_,_,_,rfl⟩,j,HI.out.1,rfl,HI.out.2.2.2.2⟩
    ·have hz:decide ((0:Int)<(o:Int))=true:=by simp;omega
     have hz2:decide (0<o)=true:=by simp;omega
     have HR2:=Lib.hid (show seqS (l.drop i)=(some out,l.drop j) by rw [HR.out,if_neg (fun e=>h0 (by rw [←HO.out,e];rfl))])
     clear h0
     go_wp2_with (go_at_call 144;refine HC.out.mono ?_;rintro e w' ⟨rfl,rfl⟩)
     go_returns
     rw [HR2.out]
     exact ⟨⟨_,rfl,HV.out⟩,j,HI.out.1,rfl,HI.out.2.2.2.2⟩
   |false=>
    have HSX:=HSP.out x
    rw [hsp,Bool.false_or] at HSX
    have HSX2:=Lib.hid HSX
    have hsz:w.heap.size≤wr.heap.size:=HI.out.2.2.2.2.size
    have HSZ:=Lib.hid hsz
    by_cases h92:x=92
    ·subst h92
     have HSX3:=HSX2
     rw [show ((92:Nat)==92)=true from rfl] at HSX3
     by_cases h3:o=3
     ·have hres:RES=(none,l.drop j):=by rw [←HI.out.2.2.2.1,hd];exact seqG_full hsp _ _ (by rw [HO.out];exact h3)
      have HR:=Lib.hid (show seqS (l.drop i)=(none,l.drop j) by rw [HQ.out.1,hres])
      subst h3
      clear hx hd hs hsp hres stop HSX HSX2 hjn hsz
      go_wp2_with (go_at_call 214;fail)
      refine (HSX3.out _).mono ?_
      rintro e w4 ⟨rfl,hw4⟩
      obtain rfl:wr=w4:=hw4.symm
      go_wp2
      go_returns
      rw [HR.out]
      exact ⟨⟨_,_,_,rfl⟩,j,HI.out.1,rfl,HI.out.2.2.2.2⟩
     ·have h3':((o:Int)==3)=false:=by rw [beq_eq_false_iff_ne];omega
      have hol:out.length≠3:=by rw [HO.out];exact h3
      obtain ⟨c0,c1,c2,f2⟩:=HI.out.1.cells
      obtain ⟨r3,t3⟩:=HI.out.1.set (j+1) hjn
      have pc:((j+1:Nat):Int)=(j:Int)+1:=by omega
      rw [pc] at r3 t3
      obtain ⟨W1,hW1⟩: ∃W3,wr.setCell ⟨q,2,none⟩ (.int .i64 ((j:Int)+1))=W3:=⟨_,rfl⟩
      rw [hW1] at r3 t3
      have hg1:=HG.out.touch t3 (fun b hb e=>by have:=HL.out.2.1;omega)
      have H1:=Lib.hid (And.intro r3 (And.intro hg1 (HI.out.2.2.2.2.trans t3 fun _ _ h=>h)))
      cases hy:l[j+1]? with
      |none=>
       have hnil:l.drop (j+1)= []:=List.drop_eq_nil_of_le (List.getElem?_eq_none_iff.1 hy)
       have hs1:rsgn l (j+1)= -1:=by unfold rsgn;rw [hy]
       have hres:RES=(none,[]):=by rw [←HI.out.2.2.2.1,hd,hnil];exact seqG_esc0 _ hol
       have HR:=Lib.hid (show seqS (l.drop i)=(none,l.drop (j+1)) by rw [HQ.out.1,hres,hnil])
       have HSG:=HS.out (j+1) W1 H1.out.1
       rw [hs1] at HSG
       have HSI:=Lib.hid HSG
       clear hx hd hs hsp hres stop HSX HSX2 hjn hsz hnil hs1 hy r3 t3 hg1 HSG hol h3
       go_wp2_with (go_at_call 214;fail)
       refine (HSX3.out _).mono ?_
       rintro e w4 ⟨rfl,hw4⟩
       obtain rfl:wr=w4:=hw4.symm
       go_wp2_with (go_at_call 139;fail)
       refine HSI.out.mono ?_
       rintro e w5 ⟨rfl,T5⟩
       have H5:=Lib.hid (And.intro (H1.out.1.touch T5) (H1.out.2.2.trans T5 fun _ _ f=>f.elim))
       clear T5 c0 c1 c2 f2 hW1
       go_wp2
       go_returns
       rw [HR.out]
       exact ⟨⟨_,_,_,rfl⟩,j+1,H5.out.1,rfl,H5.out.2⟩
      |some d=>
       obtain ⟨hd1,hs1⟩:=drop_rsgn hy
       have hj1n:j+1<n:=by have:=(List.getElem?_eq_some_iff.1 hy).1;have:=HL.out.1;omega
       have d0:(0:Int)≤d:=by omega
       have hres:seqG (l.drop (j+2)) (out++ [d])=RES:=by rw [←HI.out.2.2.2.1,hd,hd1];exact (seqG_esc d _ out hol).symm
       have HRS:=Lib.hid hres
       have HSG:=HS.out (j+1) W1 H1.out.1
       rw [hs1] at HSG
       have HSI:=Lib.hid HSG
       have j1n:(j:Int)+1≤n:=by omega
       obtain ⟨g',rfl⟩: ∃g',gk=g'+1:=⟨gk-1,by omega⟩
       have HD:=Lib.hid hd1
       have HJN:=Lib.hid hj1n
       clear hx hd hs hsp hres stop HSX HSX2 hjn hsz hd1 hs1 hy r3 t3 hg1 HSG h3 hj1n
       go_wp2_with (go_at_call 214;fail)
       refine (HSX3.out _).mono ?_
       rintro e w4 ⟨rfl,hw4⟩
       obtain rfl:wr=w4:=hw4.symm
       go_wp2_with (go_at_call 139;fail)
       refine HSI.out.mono ?_
       rintro e w5 ⟨rfl,T5⟩
       have R5:=H1.out.1.touch T5
       have G5:=H1.out.2.1.touch0 T5
       have TT5:Ux.Touch (fun b=>b=q) w w5:=H1.out.2.2.trans T5 fun _ _ f=>f.elim
       clear T5 c0 c1 c2 f2 hW1
       obtain ⟨c0,c1,c2,f2⟩:=R5.cells
       obtain ⟨W3,W4,a',c',hW3,hrun,hr4,hg4,ht4⟩:=adv_ R5 HJN.out G5 HO.out (by omega) TT5.size HL.out.2.1 HL.out.2.2.1 d
       have HRUN:=Lib.hid hrun
       have T04:Ux.Touch (fun b=>b=q) w W4:=TT5.trans ht4 (fun b hb h=>by rcases h with h|h;exact h;omega)
       have H4:=Lib.hid (And.intro hr4 (And.intro hg4 T04))
       have HSN:=Lib.hid (HS.out _ W4 hr4)
       have pc2:((j+1:Nat):Int)=(j:Int)+1:=by omega
       rw [pc2] at hW3 c2
       clear hrun hr4 hg4 ht4 T04 R5 G5 TT5
       go_wp2_with (at_builtin;refine Ux.wpList_app (v1:= .slice a5 o c5) (x1:= .slice (some ⟨_,0,none⟩) 1 1) rfl _ _ _ _ rfl rfl rfl (HRUN.out _) ?_)
       refine HSN.out.mono ?_
       rintro e w6 ⟨rfl,T6⟩
       have H6:=Lib.hid (And.intro (H4.out.1.touch T6) (And.intro (H4.out.2.1.touch0 T6) (H4.out.2.2.trans T6 fun _ _ f=>f.elim)))
       clear T6 c0 c1 c2 f2 hW3
       go_wp2_with (fail)
       go_roundg g'
       case measure=>omega
       case rel=>
        refine ⟨j+1+1,out++ [d],rfl,by omega,Lib.hid ⟨H6.out.1,H6.out.2.1,?_,HRS.out,H6.out.2.2⟩⟩
        have h9:=HO.out
        rw [List.length_append,List.length_singleton]
        omega
    ·have hsx:((x:Nat)==92)=false:=by rw [beq_eq_false_iff_ne];exact h92
     have hxi:((x:Int)==92)=false:=by rw [beq_eq_false_iff_ne];omega
     have HSX3:=HSX2
     rw [hsx] at HSX3
     by_cases h3:o=3
     ·have hres:RES=(none,l.drop j):=by rw [←HI.out.2.2.2.1,hd];exact seqG_full hsp _ _ (by rw [HO.out];exact h3)
      have HR:=Lib.hid (show seqS (l.drop i)=(none,l.drop j) by rw [HQ.out.1,hres])
      subst h3
      clear hx hd hs hsp hres stop HSX HSX2 hjn hsz
      go_wp2_with (go_at_call 214;fail)
      refine (HSX3.out _).mono ?_
      rintro e w4 ⟨rfl,hw4⟩
      obtain rfl:wr=w4:=hw4.symm
      go_wp2
      go_returns
      rw [HR.out]
      exact ⟨⟨_,_,_,rfl⟩,j,HI.out.1,rfl,HI.out.2.2.2.2⟩
     ·have h3':((o:Int)==3)=false:=by rw [beq_eq_false_iff_ne];omega
      have hol:out.length≠3:=by rw [HO.out];exact h3
      have hres:seqG (l.drop (j+1)) (out++ [x])=RES:=by rw [←HI.out.2.2.2.1,hd];exact (seqG_one hsp h92 _ out hol).symm
      have HRS:=Lib.hid hres
      obtain ⟨g',rfl⟩: ∃g',gk=g'+1:=⟨gk-1,by omega⟩
      obtain ⟨c0,c1,c2,f2⟩:=HI.out.1.cells
      obtain ⟨W3,W4,a',c',hW3,hrun,hr4,hg4,ht4⟩:=adv_ HI.out.1 hjn HG.out HO.out (by omega) hsz HL.out.2.1 HL.out.2.2.1 x
      have HRUN:=Lib.hid hrun
      have T04:Ux.Touch (fun b=>b=q) w W4:=HI.out.2.2.2.2.trans ht4 (fun b hb h=>by rcases h with h|h;exact h;omega)
      have H4:=Lib.hid (And.intro hr4 (And.intro hg4 T04))
      have HSN:=Lib.hid (HS.out _ W4 hr4)
      clear hx hd hs hsp hres stop HSX HSX2 hjn hsz hrun hr4 hg4 ht4 T04 h3 hsx
      go_wp2_with (go_at_call 214;fail)
      refine (HSX3.out _).mono ?_
      rintro e w4 ⟨rfl,hw4⟩
      obtain rfl:wr=w4:=hw4.symm
      go_wp2_with (at_builtin;refine Ux.wpList_app (v1:= .slice a5 o c5) (x1:= .slice (some ⟨_,0,none⟩) 1 1) rfl _ _ _ _ rfl rfl rfl (HRUN.out _) ?_)
      refine HSN.out.mono ?_
      rintro e w6 ⟨rfl,T6⟩
      have H6:=Lib.hid (And.intro (H4.out.1.touch T6) (And.intro (H4.out.2.1.touch0 T6) (H4.out.2.2.trans T6 fun _ _ f=>f.elim)))
      clear T6 c0 c1 c2 f2 hW3
      go_wp2_with (fail)
      go_roundg g'
      case measure=>omega
      case rel=>
       refine ⟨j+1,out++ [x],rfl,by omega,Lib.hid ⟨H6.out.1,H6.out.2.1,?_,HRS.out,H6.out.2.2⟩⟩
       have h9:=HO.out
       rw [List.length_append,List.length_singleton]
       omega
end Go.Proofs.YtfccjaboicpohaaGreatDoor
namespace Go.Proofs.YtfccjaboicpohaaGreatDoor
open Go.RowKit
open Ux (Row iv sv Grow)
open Ux.Rules (isBl isSp blankS relS ltN seqG seqS ruleS Rul)
theorem thereM {w:World} {q:Nat} {cs:Array Value} {t:TypeId} (h:w.heap[q]? =some (.cells cs t (0,0))):w.there q 0 cs.size:=fun j hj=>by
 rw [Nat.zero_add]
 refine ⟨?_,Ux.frozen_row h j⟩
 rw [cell_of_row w q j _ _ (0,0) h,Array.getElem?_eq_getElem hj]
 rfl
def set3 (w:World) (q:Nat) (v0 v1 v2:Value):World:=((w.setCell ⟨q,0,none⟩ v0).setCell ⟨q,1,none⟩ v1).setCell ⟨q,2,none⟩ v2
theorem set3_row {w:World} {q:Nat} {c0 c1 c2:Value} {t:TypeId} (h:w.heap[q]? =some (.cells #[c0,c1,c2] t (0,0))) (v0 v1 v2:Value):(set3 w q v0 v1 v2).heap[q]? =some (.cells #[v0,v1,v2] t (0,0)):=
 Ux.setCell_row (Ux.setCell_row (Ux.setCell_row h 0 v0) 1 v1) 2 v2
theorem set3_touch (w:World) (q:Nat) (v0 v1 v2:Value):Ux.Touch (fun b=>b=q) w (set3 w q v0 v1 v2):=
 (((Ux.Touch.refl (fun b=>b=q) w).setCell (p:=⟨q,0,none⟩) (fun _=>rfl) _).setCell (p:=⟨q,1,none⟩) (fun _=>rfl) _).setCell (p:=⟨q,2,none⟩) (fun _=>rfl) _
def QV (w:World) (lo:Nat) (v:Value) (s:List Nat):Prop:=Row w lo 3 v (iv (sv s))
def RuleR (w:World) (lo:Nat) (o:Option Rul) (e:Ending):Prop:=match o with
 |some x=> ∃v1 v2,e= .returned (.tuple #[.agg #[.int .i64 (x.rel:Int),v1,v2],.bool true])∧QV w lo v1 x.seq∧QV w lo v2 x.exp
 |none=> ∃z a1 n1 c1 a2 n2 c2,e= .returned (.tuple #[.agg #[.int .i64 z,.slice a1 n1 c1,.slice a2 n2 c2],.bool false])
set_option maxHeartbeats 16000000 in
set_option maxRecDepth 100000 in
theorem prule_ (q:Nat) (l:List Nat) (a:Option Addr) (n c:Nat) (va:Value) (i:Nat) (first:Bool) (w:World) (h:RdAt w q l a n c va i):
 Calls Tryz.prog 140 #[.pointer (some ⟨q,0,none⟩),.bool first] w fun e w'=>RuleR w' w.heap.size (ruleS first (l.drop i)).1 e∧∃j,RdAt w' q l a n c va j∧l.drop j=(ruleS first (l.drop i)).2∧Ux.Touch (fun b=>b=q) w w':=by
 have HH:=Lib.hid h
 have n0:(n:Int)≤1000000000:=by have:=h.big;omega
 obtain ⟨B,hB⟩: ∃B,w.heap.size=B:=⟨_,rfl⟩
 have hq:q<B:=by rw [←hB];exact h.below.1
 obtain ⟨W1,hW1⟩: ∃W,w.alloc (.cells #[.int .i64 0,.slice none 0 0,.slice none 0 0] 117)=W:=⟨_,rfl⟩
 have T1:Ux.Touch (fun _=>False) w W1:=by rw [←hW1];exact (Ux.Touch.refl _ _).alloc _
 have b1:W1.heap[B]? =some (.cells #[.int .i64 0,.slice none 0 0,.slice none 0 0] 117 (0,0)):=by rw [←hW1,←hB];exact heap_alloc_new w _
 have R1:=h.touch T1
 obtain ⟨c0,c1,c2,f2⟩:=R1.cells
 have HRL:=Lib.hid (prel_ q l a n c va i W1 R1)
 have H1:=Lib.hid (And.intro T1 (And.intro b1 (And.intro R1 hq)))
 have HB:=Lib.hid (And.intro hW1 hB)
 have il:(i:Int)≤n:=by have:=h.le;omega
 have i0:(0:Int)≤i:=by omega
 clear h T1 b1 R1 hW1 hB hq
 go_enter Tryz.func140,Tryz.ntmps140
 go_upto_region 1 with (fail)
 rw [HB.out.1,HB.out.2]
 go_wp2_with (go_at_call 181;fail)
 refine HRL.out.mono ?_
 rintro e w2 ⟨rfl,j2,R2,hj2,T2⟩
 obtain ⟨rs,hrs⟩: ∃rs,relS (l.drop i)=rs:=⟨_,rfl⟩
 rw [hrs] at hj2
 rw [hrs]
 obtain ⟨k,r2⟩:=rs
 dsimp only at hj2⊢
 have b2:=T2.heap H1.out.2.1 (fun e=>by have:=H1.out.2.2.2;omega)
 obtain ⟨q3,hq3⟩: ∃q,w2.heap.size=q:=⟨_,rfl⟩
 obtain ⟨W3,hW3⟩: ∃W,w2.alloc (.cells #[.int .i64 (k:Int),.slice none 0 0,.slice none 0 0] 117)=W:=⟨_,rfl⟩
 have T3:Ux.Touch (fun _=>False) w2 W3:=by rw [←hW3];exact (Ux.Touch.refl _ _).alloc _
 have b3:W3.heap[q3]? =some (.cells #[.int .i64 (k:Int),.slice none 0 0,.slice none 0 0] 117 (0,0)):=by rw [←hW3,←hq3];exact heap_alloc_new w2 _
 have R3:=R2.touch T3
 have hBq:B<q3:=by rw [←hq3];exact Ux.lt_of_heap b2
 have H3:=Lib.hid (And.intro b3 (And.intro (T3.heap b2 (fun f=>f)) (And.intro R3 (And.intro ((H1.out.1.mono (fun _ _ f=>f.elim):Ux.Touch (fun b=>b=q) w W1).trans (T2.trans T3 fun _ _ f=>f.elim) fun _ _ h=>h) hBq))))
 have HB3:=Lib.hid (And.intro hW3 hq3)
 have cellsR: ∀(W:World) (p:Nat) (z:Int) (u1 u2:Value),W.heap[p]? =some (.cells #[.int .i64 z,u1,u2] 117 (0,0))→W.cell? ⟨p,0,none⟩=some (.int .i64 z)∧W.cell? ⟨p,1,none⟩=some u1∧W.cell? ⟨p,2,none⟩=some u2∧W.frozen? ⟨p,0,none⟩=false∧W.frozen? ⟨p,1,none⟩=false∧W.frozen? ⟨p,2,none⟩=false:=fun W p z u1 u2 hh=>by
  refine ⟨?_,?_,?_,Ux.frozen_row hh 0,Ux.frozen_row hh 1,Ux.frozen_row hh 2⟩
  ·rw [cell_of_row W p 0 _ _ (0,0) hh];rfl
  ·rw [cell_of_row W p 1 _ _ (0,0) hh];rfl
  ·rw [cell_of_row W p 2 _ _ (0,0) hh];rfl
 have HCR:=Lib.hid cellsR
 have HJ2:=Lib.hid hj2
 clear b2 T3 b3 R3 hBq T2 R2 hW3 hq3 cellsR hj2 c0 c1 c2 f2
 go_upto_region 3 with (fail)
 rw [HB3.out.1,HB3.out.2]
 obtain ⟨c0,c1,c2,f2⟩:=H3.out.2.2.1.cells
 by_cases hbad:k=0∨(first=true∧k≠1)
 ·have hr:ruleS first (l.drop i)=(none,l.drop i):=by
   unfold ruleS
   rw [hrs,if_pos hbad]
  have HR:=Lib.hid hr
  obtain ⟨d0,d1,d2,g0,g1,g2⟩:=HCR.out _ _ _ _ _ H3.out.1
  obtain ⟨e0,e1,e2,h0,h1,h2⟩:=HCR.out _ _ _ _ _ H3.out.2.1
  obtain ⟨r4,t4⟩:=H3.out.2.2.1.set i (by omega)
  obtain ⟨w4,hw4⟩: ∃W,W3.setCell ⟨q,2,none⟩ (.int .i64 (i:Int))=W:=⟨_,rfl⟩
  rw [hw4] at r4 t4
  have q1:q≠B∧q≠q3:=by have:=H1.out.2.2.2;have:=H3.out.2.2.2.2;omega
  have b4:=t4.heap H3.out.1 (fun e=>q1.2 e.symm)
  have b5:=t4.heap H3.out.2.1 (fun e=>q1.1 e.symm)
  have H4:=Lib.hid (And.intro r4 (And.intro b4 (And.intro b5 (H3.out.2.2.2.1.trans t4 fun _ _ h=>h))))
  clear hr hrs r4 t4 b4 b5
  have hk:((k:Int)==0)=true∨((k:Int)==0)=false∧first=true∧((k:Int)==1)=false:=by
   rcases hbad with h|⟨h,h'⟩
   ·exact .inl (by rw [h];rfl)
   ·by_cases h0:k=0
    ·exact .inl (by rw [h0];rfl)
    ·exact .inr ⟨by rw [beq_eq_false_iff_ne];omega,h,by rw [beq_eq_false_iff_ne];omega⟩
  clear hbad
  rcases hk with hk|⟨hk,rfl,hk1⟩
  all_goals
   clear c0 c1 c2 f2 d0 d1 d2 g0 g1 g2 e0 e1 e2 h0 h1 h2
   obtain ⟨d0,d1,d2,g0,g1,g2⟩:=HCR.out _ _ _ _ _ H3.out.1
   obtain ⟨c0,c1,c2,f2⟩:=H3.out.2.2.1.cells
   go_upto_region 5 with (fail)
   clear hw4 c0 c1 c2 f2 d0 d1 d2 g0 g1 g2
   obtain ⟨d0,d1,d2,g0,g1,g2⟩:=HCR.out _ _ _ _ _ H4.out.2.1
   go_wp2_with (refine Ux.is_store 117 rfl ?_
                refine wpList_store_mid rfl 117 _ _ rfl B 0 #[.int .i64 (k:Int),.slice none 0 0,.slice none 0 0] rfl rfl (by have h:=thereM H4.out.2.2.1;exact h) (by kernel_rfl) (by simp [Value.oneCell']) ?_
                obtain ⟨W6,hW6⟩: ∃W',set3 w4 B (.int .i64 (k:Int)) (.slice none 0 0) (.slice none 0 0)=W':=⟨_,rfl⟩
                have T6:Ux.Touch (fun b=>b=B) w4 W6:=by rw [←hW6];exact set3_touch w4 B _ _ _
                have b6:W6.heap[B]? =some (.cells #[.int .i64 (k:Int),.slice none 0 0,.slice none 0 0] 117 (0,0)):=by rw [←hW6];exact set3_row H4.out.2.2.1 _ _ _
                unfold set3 at hW6
                simp only [World.setCells] at hW6⊢
                rw [hW6]
                have HW6:=Lib.hid (And.intro T6 b6)
                clear hW6 T6 b6)
   obtain ⟨x0,x1,x2,-⟩:=HCR.out _ _ _ _ _ HW6.out.2
   refine bodyPost_ret (by simp [results,Tryz.results140,go_sem,x0,x1,x2];try rfl) rfl ?_
   rw [HR.out]
   refine ⟨⟨_,_,_,_,_,_,_,rfl⟩,i,H4.out.1.touchR HW6.out.1 (fun e=>q1.1 e) (fun b hb e=>by have:=HH.out.below.2 b hb;have:=HB.out.2;omega),rfl,?_⟩
   exact H4.out.2.2.2.trans HW6.out.1 (fun b hb e=>by have:=HB.out.2;omega)
 ·have k0:k≠0:=fun e=>hbad (.inl e)
  have hk0:((k:Int)==0)=false:=by rw [beq_eq_false_iff_ne];omega
  have hfk:first=false∨first=true∧k=1:=by
   cases first with
   |false=>exact .inl rfl
   |true=>exact .inr ⟨rfl,Classical.byContradiction fun h=>hbad (.inr ⟨rfl,h⟩)⟩
  have hrule: ∀o r4,seqS r2=(o,r4)→ruleS first (l.drop i)=match o with
   |none=>(none,r4)
   |some s=>if k=1∨(blankS r4).head?≠some 47 then (some ⟨k,s,[]⟩,r4) else match seqS (blankS r4).tail with
    |(none,r3)=>(none,r3)
    |(some x,r3)=>(some ⟨k,s,x⟩,r3):=fun o r4 ho=>by
   unfold ruleS
   rw [hrs,if_neg hbad]
   dsimp only
   rw [ho]
   cases o<;>rfl
  have HRU:=Lib.hid hrule
  have HSQ:=pseq_ q l a n c va j2 W3 H3.out.2.2.1
  rw [HJ2.out] at HSQ
  have HSQ2:=Lib.hid HSQ
  have hBS:B<W3.heap.size∧q3<W3.heap.size∧q<W3.heap.size:=⟨Ux.lt_of_heap H3.out.2.1,Ux.lt_of_heap H3.out.1,H3.out.2.2.1.below.1⟩
  have q1:q≠B∧q≠q3:=by have:=H1.out.2.2.2;have:=H3.out.2.2.2.2;omega
  have HN:=Lib.hid (And.intro hBS q1)
  obtain ⟨rs2,hrs2⟩: ∃rs,seqS r2=rs:=⟨_,rfl⟩
  obtain ⟨o2,r4⟩:=rs2
  have hru:=HRU.out o2 r4 hrs2
  have hw3:w.heap.size≤W3.heap.size:=H3.out.2.2.2.1.size
  have HW3S:=Lib.hid hw3
  clear hrule HSQ hBS q1 hbad hrs k0 hw3
  have hfk2:(first=false)∨(first=true∧((k:Int) !=1)=false):=hfk.imp id fun h=>⟨h.1,by rw [h.2];rfl⟩
  clear hfk
  obtain ⟨d0,d1,d2,g0,g1,g2⟩:=HCR.out _ _ _ _ _ H3.out.1
  go_cut [26] (fun s26 wx=>s26= .bool false∧W3=wx)
  case first=>
   rcases hfk2 with rfl|⟨rfl,hk1⟩
   all_goals
    go_wp2_with (fail)
    go_meet
    first|exact ⟨rfl,rfl⟩|exact ⟨by rw [hk1],rfl⟩
  obtain ⟨rfl,rfl⟩:=hcut
  clear hfk2 c0 c1 c2 f2 d0 d1 d2 g0 g1 g2
  go_wp2_with (go_at_call 182;fail)
  refine HSQ2.out.mono ?_
  rintro e w4 ⟨hSR,j4,R4,hj4,T4⟩
  rw [hrs2] at hSR hj4
  dsimp only at hSR hj4
  have b3:=T4.heap H3.out.1 (fun e=>HN.out.2.2 e.symm)
  have bB:=T4.heap H3.out.2.1 (fun e=>HN.out.2.1 e.symm)
  have TW4:=H3.out.2.2.2.1.trans T4 fun _ _ h=>h
  have hset: ∀v1,(w4.setCell ⟨q3,1,none⟩ v1).heap[q3]? =some (.cells #[.int .i64 (k:Int),v1,.slice none 0 0] 117 (0,0))∧Ux.Touch (fun b=>b=q3) w4 (w4.setCell ⟨q3,1,none⟩ v1):=fun v1=>
   ⟨Ux.setCell_row b3 1 v1,(Ux.Touch.refl (fun b=>b=q3) w4).setCell (p:=⟨q3,1,none⟩) (fun _=>rfl) _⟩
  have h4s:=T4.size
  cases o2 with
  |none=>
   obtain ⟨a1,m1,z1,rfl⟩:=hSR
   obtain ⟨s1,s2⟩:=hset (.slice a1 m1 z1)
   obtain ⟨w5,hw5⟩: ∃W,w4.setCell ⟨q3,1,none⟩ (.slice a1 m1 z1)=W:=⟨_,rfl⟩
   rw [hw5] at s1 s2
   have R5:=R4.touchR s2 (fun e=>HN.out.2.2 e) (fun b hb e=>by have:=HH.out.below.2 b hb;have:=H3.out.2.2.2.2;have:=HB.out.2;omega)
   have bB5:=s2.heap bB (fun e=>by have:=H3.out.2.2.2.2;omega)
   have H5:=Lib.hid (And.intro R5 (And.intro s1 (And.intro bB5 (TW4.trans s2 fun b hb e=>by have:=H3.out.2.2.2.2;have:=HB.out.2;omega))))
   have HR:=Lib.hid hru
   have HJ4:=Lib.hid hj4
   obtain ⟨d0,d1,d2,g0,g1,g2⟩:=HCR.out _ _ _ _ _ b3
   clear hset b3 bB TW4 T4 R4 hrs2 hru hj4 s1 s2 R5 bB5
   go_upto_region 9 with (fail)
   clear hw5 d0 d1 d2 g0 g1 g2
   obtain ⟨d0,d1,d2,g0,g1,g2⟩:=HCR.out _ _ _ _ _ H5.out.2.1
   go_wp2_with (refine Ux.is_store 117 rfl ?_
                refine wpList_store_mid rfl 117 _ _ rfl B 0 #[.int .i64 (k:Int),.slice a1 m1 z1,.slice none 0 0] rfl rfl (by have h:=thereM H5.out.2.2.1;exact h) (by kernel_rfl) (by simp [Value.oneCell']) ?_
                obtain ⟨W6,hW6⟩: ∃W',set3 w5 B (.int .i64 (k:Int)) (.slice a1 m1 z1) (.slice none 0 0)=W':=⟨_,rfl⟩
                have T6:Ux.Touch (fun b=>b=B) w5 W6:=by rw [←hW6];exact set3_touch w5 B _ _ _
                have b6:W6.heap[B]? =some (.cells #[.int .i64 (k:Int),.slice a1 m1 z1,.slice none 0 0] 117 (0,0)):=by rw [←hW6];exact set3_row H5.out.2.2.1 _ _ _
                unfold set3 at hW6
                simp only [World.setCells] at hW6⊢
                rw [hW6]
                have HW6:=Lib.hid (And.intro T6 b6)
                clear hW6 T6 b6)
   obtain ⟨x0,x1,x2,-⟩:=HCR.out _ _ _ _ _ HW6.out.2
   refine bodyPost_ret (by simp [results,Tryz.results140,go_sem,x0,x1,x2];try rfl) rfl ?_
   rw [HR.out]
   refine ⟨⟨_,_,_,_,_,_,_,rfl⟩,j4,H5.out.1.touchR HW6.out.1 (fun e=>HN.out.2.1 e) (fun b hb e=>by have:=HH.out.below.2 b hb;have:=HB.out.2;omega),HJ4.out,?_⟩
   exact H5.out.2.2.2.trans HW6.out.1 (fun b hb e=>by have:=HB.out.2;omega)
  |some sq=>
   obtain ⟨v1,rfl,hv1⟩:=hSR
   obtain ⟨a1,z1,rfl,_⟩:=hv1.is
   obtain ⟨m1,hm1⟩: ∃m,(iv (sv sq)).length=m:=⟨_,rfl⟩
   rw [hm1] at hv1
   rw [hm1]
   obtain ⟨s1,s2⟩:=hset (.slice a1 m1 z1)
   obtain ⟨w5,hw5⟩: ∃W,w4.setCell ⟨q3,1,none⟩ (.slice a1 m1 z1)=W:=⟨_,rfl⟩
   rw [hw5] at s1 s2
   have R5:=R4.touchR s2 (fun e=>HN.out.2.2 e) (fun b hb e=>by have:=HH.out.below.2 b hb;have:=H3.out.2.2.2.2;have:=HB.out.2;omega)
   have bB5:=s2.heap bB (fun e=>by have:=H3.out.2.2.2.2;omega)
   have hv5:=hv1.touch s2 (fun b hb1 hb2 e=>by have:=HN.out.1.2.1;omega)
   have H5:=Lib.hid (And.intro R5 (And.intro s1 (And.intro bB5 (And.intro (TW4.trans s2 fun b hb e=>by have:=H3.out.2.2.2.2;have:=HB.out.2;omega) hv5))))
   have HSZ5:=Lib.hid (Nat.le_trans h4s s2.size)
   have HJ4:=Lib.hid hj4
   have hbl:=pblank_ q l a n c va j4 w5 R5
   rw [hj4] at hbl
   have HBL:=Lib.hid hbl
   obtain ⟨d0,d1,d2,g0,g1,g2⟩:=HCR.out _ _ _ _ _ b3
   have j4n:(j4:Int)≤n:=by have:=R5.le;omega
   clear hset b3 bB TW4 T4 R4 hrs2 hj4 s1 s2 bB5 hv5 hbl hv1
   go_upto_region 10 with (fail)
   clear hw5 d0 d1 d2 g0 g1 g2
   obtain ⟨c0,c1,c2,f2⟩:=R5.cells
   clear R5
   go_wp2_with (go_at_call 138;fail)
   refine HBL.out.mono ?_
   rintro e w6 ⟨rfl,j6,R6,_,hj6,T6⟩
   have H6:=Lib.hid (And.intro R6 (And.intro hj6 (And.intro (T6.heap H5.out.2.1 (fun e=>HN.out.2.2 e.symm)) (And.intro (T6.heap H5.out.2.2.1 (fun e=>HN.out.2.1 e.symm)) (And.intro (H5.out.2.2.2.1.trans T6 fun _ _ h=>h) (H5.out.2.2.2.2.touch T6 fun b hb1 hb2 e=>by have:=HN.out.1.2.2;omega))))))
   have HSZ6:=Lib.hid (Nat.le_trans HSZ5.out T6.size)
   clear R6 hj6 T6 c0 c1 c2 f2
   have hdone: ∀(wX:World) (jX:Nat),RdAt wX q l a n c va jX→wX.heap[q3]? =some (.cells #[.int .i64 (k:Int),.slice a1 m1 z1,.slice none 0 0] 117 (0,0))→wX.heap[B]? =some (.cells #[.int .i64 0,.slice none 0 0,.slice none 0 0] 117 (0,0))→Ux.Touch (fun b=>b=q) w wX→Row wX W3.heap.size 3 (.slice a1 m1 z1) (iv (sv sq))→
    ∃w7,wX.setCell ⟨q,2,none⟩ (.int .i64 (j4:Int))=w7∧Hid (RdAt w7 q l a n c va j4∧w7.heap[q3]? =some (.cells #[.int .i64 (k:Int),.slice a1 m1 z1,.slice none 0 0] 117 (0,0))∧w7.heap[B]? =some (.cells #[.int .i64 0,.slice none 0 0,.slice none 0 0] 117 (0,0))∧Ux.Touch (fun b=>b=q) w w7∧Row w7 W3.heap.size 3 (.slice a1 m1 z1) (iv (sv sq))):=fun wX jX hR h3 hB hT hv=>by
    obtain ⟨r7,t7⟩:=hR.set j4 (by omega)
    exact ⟨_,rfl,Lib.hid ⟨r7,t7.heap h3 (fun e=>HN.out.2.2 e.symm),t7.heap hB (fun e=>HN.out.2.1 e.symm),hT.trans t7 fun _ _ h=>h,hv.touch t7 fun b hb1 hb2 e=>by have:=HN.out.1.2.2;omega⟩⟩
   have HDN:=Lib.hid hdone
   clear hdone
   have HSG:=Lib.hid fun j W (hW:RdAt W q l a n c va j)=>psign_ q l a n c va j W hW
   by_cases hk1:k=1
   ·have hres:ruleS first (l.drop i)=(some ⟨k,sq,[]⟩,r4):=by rw [hru,if_pos (.inl hk1)]
    have HR:=Lib.hid hres
    have hk1':((k:Int)==1)=true:=by rw [hk1];rfl
    obtain ⟨w7,hw7,H7⟩:=HDN.out w6 j6 H6.out.1 H6.out.2.2.1 H6.out.2.2.2.1 H6.out.2.2.2.2.1 H6.out.2.2.2.2.2
    clear hres hru hk1
    obtain ⟨d0,d1,d2,g0,g1,g2⟩:=HCR.out _ _ _ _ _ H6.out.2.2.1
    obtain ⟨c0,c1,c2,f2⟩:=H6.out.1.cells
    go_upto_region 14 with (fail)
    clear hw7 d0 d1 d2 g0 g1 g2 c0 c1 c2 f2
    obtain ⟨d0,d1,d2,g0,g1,g2⟩:=HCR.out _ _ _ _ _ H7.out.2.1
    go_wp2_with (refine Ux.is_store 117 rfl ?_
                 refine wpList_store_mid rfl 117 _ _ rfl B 0 #[.int .i64 (k:Int),.slice a1 m1 z1,.slice none 0 0] rfl rfl (by have h:=thereM H7.out.2.2.1;exact h) (by kernel_rfl) (by simp [Value.oneCell']) ?_
                 obtain ⟨W6,hW6⟩: ∃W',set3 w7 B (.int .i64 (k:Int)) (.slice a1 m1 z1) (.slice none 0 0)=W':=⟨_,rfl⟩
                 have T6:Ux.Touch (fun b=>b=B) w7 W6:=by rw [←hW6];exact set3_touch w7 B _ _ _
                 have b6:W6.heap[B]? =some (.cells #[.int .i64 (k:Int),.slice a1 m1 z1,.slice none 0 0] 117 (0,0)):=by rw [←hW6];exact set3_row H7.out.2.2.1 _ _ _
                 unfold set3 at hW6
                 simp only [World.setCells] at hW6⊢
                 rw [hW6]
                 have HW6:=Lib.hid (And.intro T6 b6)
                 clear hW6 T6 b6)
    obtain ⟨x0,x1,x2,-⟩:=HCR.out _ _ _ _ _ HW6.out.2
    refine bodyPost_ret (by simp [results,Tryz.results140,go_sem,x0,x1,x2];try rfl) rfl ?_
    rw [HR.out]
    refine ⟨⟨_,_,rfl,(H7.out.2.2.2.2.touch HW6.out.1 fun b hb1 hb2 e=>by have:=HN.out.1.1;omega).mono HW3S.out,Row.nil _ _ _⟩,j4,H7.out.1.touchR HW6.out.1 (fun e=>HN.out.2.1 e) (fun b hb e=>by have:=HH.out.below.2 b hb;have:=HB.out.2;omega),HJ4.out,?_⟩
    exact H7.out.2.2.2.1.trans HW6.out.1 (fun b hb e=>by have:=HB.out.2;omega)
   ·have hk1':((k:Int)==1)=false:=by rw [beq_eq_false_iff_ne];omega
    obtain ⟨d0,d1,d2,g0,g1,g2⟩:=HCR.out _ _ _ _ _ H6.out.2.2.1
    obtain ⟨c0,c1,c2,f2⟩:=H6.out.1.cells
    have hhead:(blankS r4).head? =l[j6]? :=by rw [←H6.out.2.1,head_rsgn]
    by_cases h47:l[j6]? =some 47
    ·obtain ⟨hd,hs⟩:=drop_rsgn h47
     have hS6:=HSG.out j6 w6 H6.out.1
     rw [hs] at hS6
     have HS6:=Lib.hid hS6
     have h6n:j6<n:=by have:=(List.getElem?_eq_some_iff.1 h47).1;have:=HH.out.len;omega
     have j60:(j6:Int)<n:=by omega
     have H6N:=Lib.hid h6n
     have htl:(blankS r4).tail=l.drop (j6+1):=by rw [←H6.out.2.1,hd];rfl
     have hru2:ruleS first (l.drop i)=match seqS (l.drop (j6+1)) with
      |(none,r3)=>(none,r3)
      |(some x,r3)=>(some ⟨k,sq,x⟩,r3):=by
      rw [hru,if_neg (by rw [hhead,h47];simp [hk1]),htl]
     have HRU2:=Lib.hid hru2
     clear hru hru2 htl hd hs hS6 h6n hhead h47 hk1
     go_wp2_with (go_at_call 139;fail)
     refine HS6.out.mono ?_
     rintro e w7 ⟨rfl,T7⟩
     have R7:=H6.out.1.touch T7
     have H7:=Lib.hid (And.intro (T7.heap H6.out.2.2.1 (fun f=>f)) (And.intro (T7.heap H6.out.2.2.2.1 (fun f=>f)) (And.intro (H6.out.2.2.2.2.1.trans T7 fun _ _ f=>f.elim) (H6.out.2.2.2.2.2.touch0 T7))))
     have HSZ7:=Lib.hid (Nat.le_trans HSZ6.out T7.size)
     clear T7 d0 d1 d2 g0 g1 g2 c0 c1 c2 f2
     obtain ⟨r8,t8⟩:=R7.set (j6+1) H6N.out
     have pc:((j6+1:Nat):Int)=(j6:Int)+1:=by omega
     rw [pc] at r8 t8
     obtain ⟨w8,hw8⟩: ∃W,w7.setCell ⟨q,2,none⟩ (.int .i64 ((j6:Int)+1))=W:=⟨_,rfl⟩
     rw [hw8] at r8 t8
     have H8:=Lib.hid (And.intro r8 (And.intro (t8.heap H7.out.1 (fun e=>HN.out.2.2 e.symm)) (And.intro (t8.heap H7.out.2.1 (fun e=>HN.out.2.1 e.symm)) (And.intro (H7.out.2.2.1.trans t8 fun _ _ h=>h) (H7.out.2.2.2.touch t8 fun b hb1 hb2 e=>by have:=HN.out.1.2.2;omega)))))
     have HSQ3:=Lib.hid (pseq_ q l a n c va (j6+1) w8 r8)
     obtain ⟨c0,c1,c2,f2⟩:=R7.cells
     have HSZ8:=Lib.hid (Nat.le_trans HSZ7.out t8.size)
     clear R7 r8 t8
     go_wp2_with (go_at_call 182;fail)
     refine HSQ3.out.mono ?_
     rintro e w9 ⟨hSR,j9,R9,hj9,T9⟩
     clear c0 c1 c2 f2 hw8
     obtain ⟨rs3,hrs3⟩: ∃rs,seqS (l.drop (j6+1))=rs:=⟨_,rfl⟩
     have hru3:=HRU2.out
     rw [hrs3] at hSR hj9 hru3
     obtain ⟨o3,r3⟩:=rs3
     dsimp only at hSR hj9 hru3
     have b39:=T9.heap H8.out.2.1 (fun e=>HN.out.2.2 e.symm)
     have bB9:=T9.heap H8.out.2.2.1 (fun e=>HN.out.2.1 e.symm)
     have v19:=H8.out.2.2.2.2.touch T9 fun b hb1 hb2 e=>by have:=HN.out.1.2.2;omega
     have TW9:=H8.out.2.2.2.1.trans T9 fun _ _ h=>h
     have hset9: ∀v2,(w9.setCell ⟨q3,2,none⟩ v2).heap[q3]? =some (.cells #[.int .i64 (k:Int),.slice a1 m1 z1,v2] 117 (0,0))∧Ux.Touch (fun b=>b=q3) w9 (w9.setCell ⟨q3,2,none⟩ v2):=fun v2=>
      ⟨Ux.setCell_row b39 2 v2,(Ux.Touch.refl (fun b=>b=q3) w9).setCell (p:=⟨q3,2,none⟩) (fun _=>rfl) _⟩
     have HJ9:=Lib.hid (And.intro hj9 hru3)
     clear hj9 hru3
     cases o3 with
     |none=>
      obtain ⟨a2,m2,z2,rfl⟩:=hSR
      obtain ⟨s1,s2⟩:=hset9 (.slice a2 m2 z2)
      obtain ⟨wa,hwa⟩: ∃W,w9.setCell ⟨q3,2,none⟩ (.slice a2 m2 z2)=W:=⟨_,rfl⟩
      rw [hwa] at s1 s2
      have Ha:=Lib.hid (And.intro (R9.touchR s2 (fun e=>HN.out.2.2 e) (fun b hb e=>by have:=HH.out.below.2 b hb;have:=H3.out.2.2.2.2;have:=HB.out.2;omega)) (And.intro s1 (And.intro (s2.heap bB9 (fun e=>by have:=H3.out.2.2.2.2;omega)) (And.intro (TW9.trans s2 fun b hb e=>by have:=H3.out.2.2.2.2;have:=HB.out.2;omega) (v19.touch s2 fun b hb1 hb2 e=>by have:=HN.out.1.2.1;omega)))))
      obtain ⟨d0,d1,d2,g0,g1,g2⟩:=HCR.out _ _ _ _ _ b39
      clear hset9 b39 bB9 v19 TW9 R9 T9 s1 s2
      go_upto_region 17 with (fail)
      clear hwa d0 d1 d2 g0 g1 g2
      obtain ⟨d0,d1,d2,g0,g1,g2⟩:=HCR.out _ _ _ _ _ Ha.out.2.1
      go_wp2_with (refine Ux.is_store 117 rfl ?_
                   refine wpList_store_mid rfl 117 _ _ rfl B 0 #[.int .i64 (k:Int),.slice a1 m1 z1,.slice a2 m2 z2] rfl rfl (by have h:=thereM Ha.out.2.2.1;exact h) (by kernel_rfl) (by simp [Value.oneCell']) ?_
                   obtain ⟨W6,hW6⟩: ∃W',set3 wa B (.int .i64 (k:Int)) (.slice a1 m1 z1) (.slice a2 m2 z2)=W':=⟨_,rfl⟩
                   have T6:Ux.Touch (fun b=>b=B) wa W6:=by rw [←hW6];exact set3_touch wa B _ _ _
                   have b6:W6.heap[B]? =some (.cells #[.int .i64 (k:Int),.slice a1 m1 z1,.slice a2 m2 z2] 117 (0,0)):=by rw [←hW6];exact set3_row Ha.out.2.2.1 _ _ _
                   unfold set3 at hW6
                   simp only [World.setCells] at hW6⊢
                   rw [hW6]
                   have HW6:=Lib.hid (And.intro T6 b6)
                   clear hW6 T6 b6)
      obtain ⟨x0,x1,x2,-⟩:=HCR.out _ _ _ _ _ HW6.out.2
      refine bodyPost_ret (by simp [results,Tryz.results140,go_sem,x0,x1,x2];try rfl) rfl ?_
      rw [HJ9.out.2]
      refine ⟨⟨_,_,_,_,_,_,_,rfl⟩,j9,Ha.out.1.touchR HW6.out.1 (fun e=>HN.out.2.1 e) (fun b hb e=>by have:=HH.out.below.2 b hb;have:=HB.out.2;omega),HJ9.out.1,?_⟩
      exact Ha.out.2.2.2.1.trans HW6.out.1 (fun b hb e=>by have:=HB.out.2;omega)
     |some xs=>
      obtain ⟨v2,rfl,hv2⟩:=hSR
      obtain ⟨a2,z2,rfl,_⟩:=hv2.is
      obtain ⟨m2,hm2⟩: ∃m,(iv (sv xs)).length=m:=⟨_,rfl⟩
      rw [hm2] at hv2
      rw [hm2]
      obtain ⟨s1,s2⟩:=hset9 (.slice a2 m2 z2)
      obtain ⟨wa,hwa⟩: ∃W,w9.setCell ⟨q3,2,none⟩ (.slice a2 m2 z2)=W:=⟨_,rfl⟩
      rw [hwa] at s1 s2
      have Ha:=Lib.hid (And.intro (R9.touchR s2 (fun e=>HN.out.2.2 e) (fun b hb e=>by have:=HH.out.below.2 b hb;have:=H3.out.2.2.2.2;have:=HB.out.2;omega)) (And.intro s1 (And.intro (s2.heap bB9 (fun e=>by have:=H3.out.2.2.2.2;omega)) (And.intro (TW9.trans s2 fun b hb e=>by have:=H3.out.2.2.2.2;have:=HB.out.2;omega) (v19.touch s2 fun b hb1 hb2 e=>by have:=HN.out.1.2.1;omega)))))
      have HV2:=Lib.hid (hv2.touch s2 fun b hb1 hb2 e=>by have:=HN.out.1.2.1;have:=HSZ8.out;omega)
      obtain ⟨d0,d1,d2,g0,g1,g2⟩:=HCR.out _ _ _ _ _ b39
      clear hset9 b39 bB9 v19 TW9 R9 T9 s1 s2
      go_upto_region 17 with (fail)
      clear hwa d0 d1 d2 g0 g1 g2
      obtain ⟨d0,d1,d2,g0,g1,g2⟩:=HCR.out _ _ _ _ _ Ha.out.2.1
      go_wp2_with (refine Ux.is_store 117 rfl ?_
                   refine wpList_store_mid rfl 117 _ _ rfl B 0 #[.int .i64 (k:Int),.slice a1 m1 z1,.slice a2 m2 z2] rfl rfl (by have h:=thereM Ha.out.2.2.1;exact h) (by kernel_rfl) (by simp [Value.oneCell']) ?_
                   obtain ⟨W6,hW6⟩: ∃W',set3 wa B (.int .i64 (k:Int)) (.slice a1 m1 z1) (.slice a2 m2 z2)=W':=⟨_,rfl⟩
                   have T6:Ux.Touch (fun b=>b=B) wa W6:=by rw [←hW6];exact set3_touch wa B _ _ _
                   have b6:W6.heap[B]? =some (.cells #[.int .i64 (k:Int),.slice a1 m1 z1,.slice a2 m2 z2] 117 (0,0)):=by rw [←hW6];exact set3_row Ha.out.2.2.1 _ _ _
                   unfold set3 at hW6
                   simp only [World.setCells] at hW6⊢
                   rw [hW6]
                   have HW6:=Lib.hid (And.intro T6 b6)
                   clear hW6 T6 b6)
      obtain ⟨x0,x1,x2,-⟩:=HCR.out _ _ _ _ _ HW6.out.2
      refine bodyPost_ret (by simp [results,Tryz.results140,go_sem,x0,x1,x2];try rfl) rfl ?_
      rw [HJ9.out.2]
      refine ⟨⟨_,_,rfl,(Ha.out.2.2.2.2.touch HW6.out.1 fun b hb1 hb2 e=>by have:=HN.out.1.1;omega).mono HW3S.out,(HV2.out.touch HW6.out.1 fun b hb1 hb2 e=>by have:=HN.out.1.1;have:=HSZ8.out;omega).mono (Nat.le_trans HW3S.out HSZ8.out)⟩,j9,Ha.out.1.touchR HW6.out.1 (fun e=>HN.out.2.1 e) (fun b hb e=>by have:=HH.out.below.2 b hb;have:=HB.out.2;omega),HJ9.out.1,?_⟩
      exact Ha.out.2.2.2.1.trans HW6.out.1 (fun b hb e=>by have:=HB.out.2;omega)
    ·have hres:ruleS first (l.drop i)=(some ⟨k,sq,[]⟩,r4):=by rw [hru,if_pos (.inr (by rw [hhead];exact h47))]
     have HR:=Lib.hid hres
     have hng:(rsgn l j6 !=47)=true:=by
      unfold rsgn
      cases hx:l[j6]? with
      |none=>rfl
      |some x=>
       dsimp only
       rw [bne_iff_ne]
       intro e
       exact h47 (by rw [hx];congr 1;omega)
     have hng2:(rsgn l j6==47)=false:=by rw [beq_eq_false_iff_ne];exact bne_iff_ne.1 hng
     have hS6:=HSG.out j6 w6 H6.out.1
     obtain ⟨Y,hY⟩: ∃Y,rsgn l j6=Y:=⟨_,rfl⟩
     rw [hY] at hS6 hng hng2
     have HS6:=Lib.hid hS6
     clear hru hhead h47 hk1 hS6 hres hY
     go_wp2_with (go_at_call 139;fail)
     refine HS6.out.mono ?_
     rintro e w6' ⟨rfl,T7⟩
     obtain ⟨w7,hw7,H7⟩:=HDN.out w6' j6 (H6.out.1.touch T7) (T7.heap H6.out.2.2.1 (fun f=>f)) (T7.heap H6.out.2.2.2.1 (fun f=>f)) (H6.out.2.2.2.2.1.trans T7 fun _ _ f=>f.elim) (H6.out.2.2.2.2.2.touch0 T7)
     obtain ⟨c0',c1',c2',f2'⟩:=(H6.out.1.touch T7).cells
     clear T7 c0 c1 c2 f2
     go_upto_region 14 with (fail)
     clear hw7 d0 d1 d2 g0 g1 g2 c0' c1' c2' f2'
     obtain ⟨d0,d1,d2,g0,g1,g2⟩:=HCR.out _ _ _ _ _ H7.out.2.1
     go_wp2_with (refine Ux.is_store 117 rfl ?_
                  refine wpList_store_mid rfl 117 _ _ rfl B 0 #[.int .i64 (k:Int),.slice a1 m1 z1,.slice none 0 0] rfl rfl (by have h:=thereM H7.out.2.2.1;exact h) (by kernel_rfl) (by simp [Value.oneCell']) ?_
                  obtain ⟨W6,hW6⟩: ∃W',set3 w7 B (.int .i64 (k:Int)) (.slice a1 m1 z1) (.slice none 0 0)=W':=⟨_,rfl⟩
                  have T6:Ux.Touch (fun b=>b=B) w7 W6:=by rw [←hW6];exact set3_touch w7 B _ _ _
                  have b6:W6.heap[B]? =some (.cells #[.int .i64 (k:Int),.slice a1 m1 z1,.slice none 0 0] 117 (0,0)):=by rw [←hW6];exact set3_row H7.out.2.2.1 _ _ _
                  unfold set3 at hW6
                  simp only [World.setCells] at hW6⊢
                  rw [hW6]
                  have HW6:=Lib.hid (And.intro T6 b6)
                  clear hW6 T6 b6)
     obtain ⟨x0,x1,x2,-⟩:=HCR.out _ _ _ _ _ HW6.out.2
     refine bodyPost_ret (by simp [results,Tryz.results140,go_sem,x0,x1,x2];try rfl) rfl ?_
     rw [HR.out]
     refine ⟨⟨_,_,rfl,(H7.out.2.2.2.2.touch HW6.out.1 fun b hb1 hb2 e=>by have:=HN.out.1.1;omega).mono HW3S.out,Row.nil _ _ _⟩,j4,H7.out.1.touchR HW6.out.1 (fun e=>HN.out.2.1 e) (fun b hb e=>by have:=HH.out.below.2 b hb;have:=HB.out.2;omega),HJ4.out,?_⟩
     exact H7.out.2.2.2.1.trans HW6.out.1 (fun b hb e=>by have:=HB.out.2;omega)
end Go.Proofs.YtfccjaboicpohaaGreatDoor
namespace Go.Proofs.YtfccjaboicpohaaGreatDoor
open Go.RowKit
open Ux (Row iv sv Grow KGrow Tri)
open Ux.Sign (signs put enc)
open Ux.Rules (isBl isSp blankS relS ltN seqG seqS ruleS Rul parseG parseS posB)
def posL (l:List Nat) (k:Nat):List Nat:=(List.range k).map fun j=>(put (l.take j)).length
theorem posL_succ (l:List Nat) (k:Nat):posL l (k+1)=posL l k++ [(put (l.take k)).length]:=by
 unfold posL
 rw [List.range_succ,List.map_append]
 rfl
theorem posL_len (l:List Nat) (k:Nat):(posL l k).length=k:=by unfold posL;simp
theorem posL_get (l:List Nat) (k j:Nat) (h:j<k):(posL l k)[j]? =some (put (l.take j)).length:=by
 unfold posL
 rw [List.getElem?_map,List.getElem?_range h]
 rfl
theorem put_take (l:List Nat) (k x:Nat) (h:l[k]? =some x):(put (l.take (k+1))).length=(put (l.take k)).length+(put [x]).length:=by
 rw [List.take_add_one,h]
 show (put (l.take k++ [x])).length=_
 rw [Ux.Sign.put_append,List.length_append]
theorem posB_drop (s:List UInt8) (j:Nat):posB s.length ((signs s).drop j)=(put ((signs s).take j)).length:=by
 unfold posB
 have h:put ((signs s).take j)++put ((signs s).drop j)=s:=by
  rw [←Ux.Sign.put_append,List.take_append_drop,Ux.Sign.put_signs]
 have h2:=congrArg List.length h
 rw [List.length_append] at h2
 omega
def TriQ (w:World) (lo:Nat) (xs:List Value) (l:List Rul):Prop:=Tri (fun a b c (e:Rul)=>a= .int .i64 (e.rel:Int)∧QV w lo b e.seq∧QV w lo c e.exp) xs l
theorem TriQ.touch {R:Nat→Prop} {w w':World} {lo:Nat} {xs:List Value} {l:List Rul} (h:TriQ w lo xs l) (T:Ux.Touch R w w') (hR: ∀g cs,w.heap[g]? =some (.cells cs 3 (0,0))→¬R g):TriQ w' lo xs l:=
 Tri.mono (fun a b c e he=>⟨he.1,he.2.1.touch T fun g _ hb=>let ⟨cs,hk⟩:=he.2.1.kind hb;hR g cs hk,he.2.2.touch T fun g _ hb=>let ⟨cs,hk⟩:=he.2.2.kind hb;hR g cs hk⟩) h
def RulesAt (w:World) (lo:Nat) (v:Value) (l:List Rul):Prop:= ∃a c,v= .slice a l.length c∧∀(i:Nat) (x:Rul),l[i]? =some x→∃g v1 v2,a=some ⟨g,0,none⟩∧w.cell? ⟨g,i*3,none⟩=some (.int .i64 (x.rel:Int))∧w.cell? ⟨g,i*3+1,none⟩=some v1∧w.cell? ⟨g,i*3+2,none⟩=some v2∧QV w lo v1 x.seq∧QV w lo v2 x.exp
theorem RulesAt.touch {w w':World} {lo:Nat} {v:Value} {l:List Rul} (h:RulesAt w lo v l) (T:Ux.Touch (fun _=>False) w w'):RulesAt w' lo v l:=by
 obtain ⟨a,c,e,h⟩:=h
 refine ⟨a,c,e,fun i x hx=> ?_⟩
 obtain ⟨g,v1,v2,h1,h2,h3,h4,h5,h6⟩:=h i x hx
 exact ⟨g,v1,v2,h1,T.cell h2 (fun f=>f),T.cell h3 (fun f=>f),T.cell h4 (fun f=>f),h5.touch0 T,h6.touch0 T⟩
theorem KGrow.kind {w:World} {lo:Nat} {t:TypeId} {k:Nat} {v:Value} {n:Nat} {xs:List Value} (h:KGrow w lo t k v n xs) {b:Nat} (hb:v.ownBlock=some b): ∃cs,w.heap[b]? =some (.cells cs t (0,0)):=by
 rcases h.1.2 with ⟨hv,h0⟩|⟨g,cap,cur,hv,_,hh,_⟩
 ·rw [hv] at hb;cases hb
 ·rw [hv] at hb;cases hb;exact ⟨_,hh⟩
theorem rulesAt_of {w:World} {lo lo':Nat} (hl:lo'≤lo) {a:Option Addr} {k c c':Nat} {l:List Rul} {xs:List Value} (h:KGrow w lo 117 3 (.slice a k c) k xs) (hk:l.length=k) (ht:TriQ w lo xs l):RulesAt w lo' (.slice a k c') l:=by
 obtain ⟨a',c1,e,hc⟩:=h.is
 cases e
 refine ⟨a,c',by rw [hk],fun i x hx=> ?_⟩
 obtain ⟨u,v1,v2,h1,h2,h3,rfl,h4,h5⟩:=ht.2 i x hx
 obtain ⟨g,rfl,_,k1⟩:=hc _ _ h1
 obtain ⟨g',e2,_,k2⟩:=hc _ _ h2
 obtain ⟨g'',e3,_,k3⟩:=hc _ _ h3
 cases e2;cases e3
 exact ⟨g,v1,v2,rfl,k1,k2,k3,Row.mono h4 hl,Row.mono h5 hl⟩
def ParseR (w:World) (lo n:Nat) (o:List Rul×Option (List Nat)) (e:Ending):Prop:=match o with
 |(_,some r)=>e= .returned (.tuple #[.slice none 0 0,.int .i64 (posB n r:Nat),.int .i64 10])
 |(out,none)=>if 40<out.length then e= .returned (.tuple #[.slice none 0 0,.int .i64 0,.int .i64 65]) else∃v,e= .returned (.tuple #[v,.int .i64 0,.int .i64 0])∧RulesAt w lo v out
theorem infoR:(Tryz.prog.info? 117).map (fun i=>(i.zero,i.size,i.bytes))=some (some (.agg #[.int .i64 0,.slice none 0 0,.slice none 0 0]),3,56):=by kernel_rfl
theorem rd_kind {w:World} {q:Nat} {l:List Nat} {a:Option Addr} {n c:Nat} {va:Value} {i:Nat} (h:RdAt w q l a n c va i): ∀g cs,w.heap[g]? =some (.cells cs 3 (0,0))→¬(g=q):=fun g cs hk e=>by
 rw [e,h.blk] at hk
 cases hk
theorem clipR_some (g n c:Nat) (w:World) (h:n≤c):Calls Tryz.prog 141 #[.slice (some ⟨g,0,none⟩) n c] w fun e w'=>e= .returned (.slice (some ⟨g,0,none⟩) n n)∧w'=w:=by
 go_enter Tryz.func141,Tryz.ntmps141
 go_wp2
 go_ret
 exact ⟨rfl,rfl⟩
theorem clipR_ {w:World} {lo:Nat} {a:Option Addr} {n c:Nat} {xs:List Value} (h:KGrow w lo 117 3 (.slice a n c) n xs) (W:World):Calls Tryz.prog 141 #[.slice a n c] W fun e w'=>e= .returned (.slice a n n)∧w'=W:=by
 have hc:=h.cap
 rcases h.1.2 with ⟨hv,h0⟩|⟨g,cap,cur,hv,_⟩
 ·cases hv
  exact clipR_none W
 ·cases hv
  exact clipR_some g n _ W hc
theorem appR {W:World} {lo:Nat} {a:Option Addr} {k c:Nat} {xs:List Value} (h:KGrow W lo 117 3 (.slice a k c) k xs) (hlo:lo≤W.heap.size) (hk:k≤1000000) (z:Int) (a1:Option Addr) (n1 c1:Nat) (a2:Option Addr) (n2 c2:Nat):
 ∃r W' c',(∀ty,(Builtin.append_ #[32,32] ty #[.slice a k c,.slice (some ⟨W.heap.size,0,none⟩) 1 1]).run Tryz.prog (W.alloc (.cells #[.int .i64 z,.slice a1 n1 c1,.slice a2 n2 c2] 117))= .ok (.slice r (k+1:Nat) c') W')∧
  KGrow W' lo 117 3 (.slice r (k+1:Nat) c') (k+1) (xs++ [.int .i64 z,.slice a1 n1 c1,.slice a2 n2 c2])∧Ux.Touch (fun b=>lo≤b∧∃cs,W.heap[b]? =some (Obj.cells cs 117 (0,0))) W W':=by
 have hk1:KGrow (W.alloc (.cells #[.int .i64 z,.slice a1 n1 c1,.slice a2 n2 c2] 117)) lo 117 3 (.slice a k c) k xs:=h.touch0 ((Ux.Touch.refl _ W).alloc _)
 obtain ⟨r,W',h1,h2,h3⟩:=hk1.app 32 56 _ Tryz.underlying32 infoR rfl (by omega) (.slice (some ⟨W.heap.size,0,none⟩) 1 1) 1 [.int .i64 z,.slice a1 n1 c1,.slice a2 n2 c2] (Ux.src_new Tryz.underlying32 W 3 1 _ rfl (by simp [Value.oneCell'])) (by rw [World.size_alloc];omega) (by simp only [maxLen];omega) (by omega)
 obtain ⟨ra,rc,rfl,_⟩:=h2.is
 refine ⟨ra,W',rc,h1,h2,?_⟩
 exact (((Ux.Touch.refl (fun b=>lo≤b∧∃cs,W.heap[b]? =some (Obj.cells cs 117 (0,0))) W).alloc _).trans h3 fun b _ hh=>⟨hh.1,KGrow.kind h hh.2⟩)
set_option maxHeartbeats 16000000 in
set_option maxRecDepth 100000 in
theorem parse_ (s:ByteArray) (w:World) (hs:s.size≤1000000) (hT:Tabs w):
 Calls Tryz.prog 95 #[.string s] w fun e w'=>ParseR w' w.heap.size s.size (parseS (signs s.data.toList)) e∧Ux.Touch (fun _=>False) w w':=by
 have HS:=Lib.hid (signs_ s w (by omega) hT)
 have hln:(signs s.data.toList).length≤s.size:=by
  have h:=signs_len s.data.toList
  have e:s.data.toList.length=s.size:=rfl
  omega
 have hlt:=signs_lt s.data.toList
 have hpos:=fun j=>posB_drop s.data.toList j
 rw [show s.data.toList.length=s.size from rfl] at hpos
 obtain ⟨l,hl⟩: ∃l,signs s.data.toList=l:=⟨_,rfl⟩
 rw [hl] at HS hln hlt hpos⊢
 have HL:=Lib.hid (And.intro hln (And.intro hlt (And.intro hpos hs)))
 obtain ⟨PS,hPS⟩: ∃PS,parseS l=PS:=⟨_,rfl⟩
 rw [hPS]
 have HPS:=Lib.hid hPS
 clear hT hl hln hlt hpos hs hPS
 go_enter Tryz.func95,Tryz.ntmps95
 go_wp2_with (go_at_call 97;fail)
 refine HS.out.mono ?_
 rintro e w2 ⟨u,rfl,hu,T2⟩
 obtain ⟨a,c,rfl,_⟩:=hu.is
 obtain ⟨n,hn⟩: ∃n,(iv (sv l)).length=n:=⟨_,rfl⟩
 rw [hn] at hu⊢
 have hln:l.length=n:=by rw [←hn,Ux.iv_length,Ux.sv_length]
 clear hn
 obtain ⟨q,hq⟩: ∃q,w2.heap.size=q:=⟨_,rfl⟩
 obtain ⟨W3,hW3⟩: ∃W3,w2.alloc (.cells #[.slice a n c,.slice none 0 0,.int .i64 0] 220)=W3:=⟨_,rfl⟩
 have T3:Ux.Touch (fun _=>False) w2 W3:=by rw [←hW3];exact (Ux.Touch.refl _ _).alloc _
 have hb:W3.heap[q]? =some (.cells #[.slice a n c,.slice none 0 0,.int .i64 0] 220 (0,0)):=by rw [←hW3,←hq];exact heap_alloc_new w2 _
 have n0:(n:Int)≤1000000:=by have:=HL.out.1;have:=HL.out.2.2.2;omega
 have R3:RdAt W3 q l a n c (.slice none 0 0) 0:=⟨hb,hln,Nat.zero_le _,by omega,(hu.mono (Nat.zero_le _)).touch0 T3⟩
 have H3:=Lib.hid (And.intro R3 (And.intro (T2.trans T3 fun _ _ f=>f) (And.intro hln (show w.heap.size≤q by rw [←hq];exact T2.size))))
 have HW3:=Lib.hid (And.intro hW3 hq)
 have HQ:=Lib.hid (show W3.heap.size=q+1 by rw [←hW3,World.size_alloc,hq])
 obtain ⟨d0,-,-,-⟩:=R3.cells
 have HSB:=Lib.hid (fun b hb=>(show b<q by
  obtain ⟨cs,hk⟩:=hu.kind hb
  have:=Ux.lt_of_heap hk
  omega): ∀b,(Value.slice a n c).ownBlock=some b→b<q)
 clear hln hu hb T2 T3 R3 hW3 hq
 go_wp2_with (fail)
 rw [HW3.out.1,HW3.out.2]
 go_loopg [6,20] n (fun gk s6 s20 wr=> ∃i:Nat,s20= .int .i64 i∧s6= .int .i64 ((put (l.take i)).length:Nat)∧i+gk=n∧Hid (∃va,RdAt wr q l a n c va 0∧Grow wr (q+1) 3 va (iv (sv (posL l i)))∧Ux.Touch (fun b=>b=q) W3 wr))
 case atStart=>exact ⟨0,rfl,rfl,by omega,Lib.hid ⟨_,H3.out.1,Grow.nil _ _ _,Ux.Touch.refl _ _⟩⟩
 case round=>
  obtain ⟨i,rfl,rfl,hig,HI⟩:=hrel
  obtain ⟨va,R,hG,T⟩:=HI.out
  have p0:(0:Int)≤i:=by omega
  obtain ⟨pl,hpl⟩: ∃k,(put (l.take i)).length=k:=⟨_,rfl⟩
  have pb:pl≤4000000:=by
   have h:=put_len (l.take i)
   rw [List.length_take] at h
   have:=HL.out.1
   have:=HL.out.2.2.2
   have:=H3.out.2.2.1
   omega
  have HPL:=Lib.hid hpl
  rw [hpl]
  clear d0 hpl
  obtain ⟨ar,cr,rfl,_⟩:=hG.row.is
  rw [show (iv (sv (posL l i))).length=i by rw [Ux.iv_length,Ux.sv_length,posL_len]] at R hG
  have hlo:q+1≤wr.heap.size:=by have:=T.size;have:=HQ.out;omega
  obtain ⟨r5,W5,run5,hG5,T5⟩:=appI hG 1 [.int .i64 (pl:Int)] rfl (by simp [Value.oneCell']) hlo (by rw [Ux.iv_length,Ux.sv_length,posL_len];omega)
  have e5:iv (sv (posL l i))++ [Value.int .i64 (pl:Int)]=iv (sv (posL l (i+1))):=by
   rw [posL_succ,Ux.sv_append,Ux.iv_append,HPL.out]
   rfl
  rw [e5] at hG5
  obtain ⟨ar5,cr5,rfl,_⟩:=hG5.row.is
  rw [show (iv (sv (posL l (i+1)))).length=i+1 by rw [Ux.iv_length,Ux.sv_length,posL_len]] at hG5 run5
  have R5:=R.touchR T5 (fun hh=>by have:=hh.1;omega) (fun b hb hh=>by have:=hh.1;have:=HSB.out b hb;omega)
  obtain ⟨d0,d1,d2,f2⟩:=R.cells
  obtain ⟨g0,g1,g2,k2⟩:=R5.cells
  have k1:=Ux.frozen_row R5.blk 1
  obtain ⟨W6,hW6⟩: ∃W,W5.setCell ⟨q,1,none⟩ (.slice ar5 (i+1:Nat) cr5)=W:=⟨_,rfl⟩
  have T6:Ux.Touch (fun b=>b=q) W5 W6:=by rw [←hW6];exact (Ux.Touch.refl (fun b=>b=q) W5).setCell (p:=⟨q,1,none⟩) (fun _=>rfl) _
  have R6:RdAt W6 q l a n c (.slice ar5 (i+1:Nat) cr5) 0:=by
   refine ⟨?_,R5.len,R5.le,R5.big,R5.row.touch T6 fun b _ hb e=>by have:=HSB.out b hb;omega⟩
   rw [←hW6]
   exact Ux.setCell_row R5.blk 1 _
  have hG6:=hG5.touch T6 (fun b hb e=>by omega)
  have TT:Ux.Touch (fun b=>b=q) W3 W6:=(T.trans T5 fun b hb hh=>by have:=hh.1;have:=HQ.out;omega).trans T6 fun b _ e=>e
  have H6:=Lib.hid (And.intro R6 (And.intro hG6 TT))
  have R5':=Lib.hid run5
  have HW6:=Lib.hid hW6
  by_cases hin:i<n
  ·obtain ⟨g',rfl⟩: ∃g',gk=g'+1:=⟨gk-1,by omega⟩
   have j2:(i:Int)<n:=by omega
   obtain ⟨x,hx⟩: ∃x,l[i]? =some x:=⟨_,List.getElem?_eq_getElem (by have:=H3.out.2.2.1;omega)⟩
   obtain ⟨g,rfl,_,hcx⟩:=R.row.at (Ux.iv_get (Ux.sv_get hx))
   obtain ⟨W7,hW7⟩: ∃W,W6.alloc (.cells #[.int .i64 (x:Int)] 3)=W:=⟨_,rfl⟩
   obtain ⟨q7,hq7⟩: ∃k,W5.heap.size=k:=⟨_,rfl⟩
   have hsz6:W6.heap.size=q7:=by rw [←hq7,←hW6];simp
   have T7:Ux.Touch (fun _=>False) W6 W7:=by rw [←hW7];exact (Ux.Touch.refl _ _).alloc _
   have hr7:Row W7 0 3 (.slice (some ⟨q7,0,none⟩) 1 1) (iv (sv [x])):= .inr ⟨q7,1,#[.int .i64 (x:Int)],rfl,Nat.zero_le _,by rw [←hW7,←hsz6];exact heap_alloc_new W6 _,Nat.le_refl _,Nat.le_refl _,rfl⟩
   have HPU:=Lib.hid (putAll_ _ [x] 0 W7 hr7 (fun y hy=>by rw [List.mem_singleton.1 hy];exact HL.out.2.1 x (List.mem_of_getElem? hx)) (by simp))
   obtain ⟨PB,hPB⟩: ∃P,(⟨(put [x]).toArray⟩:ByteArray)=P:=⟨_,rfl⟩
   rw [hPB] at HPU
   obtain ⟨pn,hpn⟩: ∃k,PB.size=k:=⟨_,rfl⟩
   have hpx:(put [x]).length=pn:=by rw [←hpn,←hPB];exact List.size_toArray.symm
   have pnb:pn≤4:=by have h:=put_len [x];rw [hpx] at h;simpa using h
   have hnx:(put (l.take (i+1))).length=pl+pn:=by rw [put_take l i x hx,hpx,HPL.out]
   have HN:=Lib.hid hnx
   have H7:=Lib.hid T7
   have HW7:=Lib.hid (And.intro hW7 hq7)
   clear hin hx R hG T R5 T5 T6 R6 hG6 TT hG5 run5 e5 hW6 T7 hr7 hW7 hsz6 hq7 hPB hpx hnx hlo HI
   go_wp2_with (at_builtin;refine Ux.wpList_app (v1:= .slice ar i cr) (x1:= .slice (some ⟨wr.heap.size,0,none⟩) 1 1) rfl _ _ _ _ rfl rfl rfl (R5'.out _) ?_)
   rw [HW6.out,HW7.out.1,HW7.out.2]
   refine HPU.out.mono ?_
   rintro e w8 ⟨rfl,T8⟩
   have H8:=Lib.hid (H7.out.trans T8 fun _ _ f=>f)
   clear T8 d0 d1 d2 f2 g0 g1 g2 k1 k2 hcx
   go_wp2
   go_roundg g'
   case measure=>omega
   case rel=>
    refine ⟨i+1,rfl,?_,by omega,Lib.hid ⟨_,H6.out.1.touch H8.out,H6.out.2.1.touch0 H8.out,H6.out.2.2.trans H8.out fun _ _ f=>f.elim⟩⟩
    rw [HN.out,Int.natCast_add]
  ·have hi:i=n:=by omega
   have j2: ¬((i:Int)<n):=by omega
   have HG6:=Lib.hid (show Row W6 0 3 (.slice ar5 (i+1:Nat) cr5) (iv (sv (posL l (n+1)))) by rw [←hi];exact hG6.row.mono (Nat.zero_le _))
   obtain ⟨vat,hvat⟩: ∃v,Value.slice ar5 (i+1:Nat) cr5=v:=⟨_,rfl⟩
   have HVA:=Lib.hid hvat
   clear hin hi R hG T R5 T5 T6 R6 hG6 TT hG5 run5 e5 hW6 hlo HI hvat
   have HB6:=Lib.hid (pblank_ q l a n c _ 0 W6 H6.out.1)
   go_wp2_with (first|(at_builtin;refine Ux.wpList_app (v1:= .slice ar i cr) (x1:= .slice (some ⟨wr.heap.size,0,none⟩) 1 1) rfl _ _ _ _ rfl rfl rfl (R5'.out _) ?_)|(go_at_call 138;fail))
   rw [HW6.out]
   refine HB6.out.mono ?_
   rintro e w7 ⟨rfl,j0,R7,_,hj0,T7⟩
   have HK7:=Lib.hid (HG6.out.touch T7 fun b _ hb=>let ⟨cs,hk⟩:=HG6.out.kind hb;rd_kind H6.out.1 b cs hk)
   rw [HVA.out] at R7 HK7
   have H7:=Lib.hid (And.intro R7 (And.intro hj0 (H6.out.2.2.trans T7 fun _ _ e=>e)))
   clear R7 hj0 T7 d0 d1 d2 f2 g0 g1 g2 k1 k2
   have hb0:blankS (l.drop j0)=l.drop j0:=by rw [H7.out.2.1,Ux.Rules.blankS_twice]
   have hp0:parseG (n+1) (l.drop j0) []=PS:=by
    rw [H7.out.2.1,Ux.Rules.parseG_blank,List.drop_zero,←HPS.out]
    unfold parseS
    rw [H3.out.2.2.1]
   have HB0:=Lib.hid (And.intro hb0 hp0)
   clear hb0 hp0
   go_wp2_with (fail)
   go_loopg [2] (n+1) (fun gk s2 wr=> ∃(j k:Nat) (a2:Option Addr) (c2:Nat) (out:List Rul) (xs:List Value),s2= .slice a2 k c2∧out.length=k∧k+gk=n+1∧n-j<gk∧Hid (RdAt wr q l a n c vat j∧Row wr 0 3 vat (iv (sv (posL l (n+1))))∧KGrow wr (q+1) 117 3 (.slice a2 k c2) k xs∧TriQ wr (q+1) xs out∧Ux.Touch (fun b=>b=q) W3 wr∧blankS (l.drop j)=l.drop j∧parseG gk (l.drop j) out=PS))
   case atStart=>exact ⟨j0,0,none,0,[],[],rfl,rfl,by omega,by omega,Lib.hid ⟨H7.out.1,HK7.out,KGrow.nil _ _ _ _,Tri.nil _,H7.out.2.2,HB0.out.1,HB0.out.2⟩⟩
   case round=>
    obtain ⟨j,k,a2,c2,out,xs,rfl,hk,hkg,hjg,HI⟩:=hrel
    obtain ⟨R,hat,hG,hTr,T,hbl,hPG⟩:=HI.out
    obtain ⟨g',rfl⟩: ∃g',gk=g'+1:=⟨gk-1,by omega⟩
    have k0:(k:Int)≤1000001:=by omega
    have k00:(0:Int)≤k:=by omega
    have hjn:=R.le
    have HSG:=Lib.hid (psign_ q l a n c vat j _ R)
    unfold parseG at hPG
    rw [hbl] at hPG
    cases hx:l[j]? with
    |none=>
     have hnil:l.drop j= []:=List.drop_eq_nil_of_le (List.getElem?_eq_none_iff.1 hx)
     have hsn:rsgn l j= -1:=by unfold rsgn;rw [hx]
     rw [if_pos hnil] at hPG
     rw [hsn] at HSG
     subst hPG
     have HO:=Lib.hid hk
     clear hx hnil hsn R hat hG hTr T hbl hk hkg hjg hjn
     go_wp2_with (go_at_call 139;fail)
     refine HSG.out.mono ?_
     rintro e w8 ⟨rfl,T8⟩
     have H8:=Lib.hid T8
     clear T8
     have TT:=H3.out.2.1.trans (HI.out.2.2.2.2.1.trans H8.out fun _ _ f=>f.elim) fun b hb e=>by have:=H3.out.2.2.2;omega
     have HTT:=Lib.hid TT
     clear TT
     by_cases h40:40<k
     ·have k4:(k:Int)>40:=by omega
      go_wp2_with (fail)
      go_returns
      refine ⟨?_,HTT.out⟩
      unfold ParseR
      dsimp only
      rw [if_pos (by rw [HO.out];exact h40)]
      rfl
     ·have k4: ¬((k:Int)>40):=by omega
      have HCL:=Lib.hid (clipR_ HI.out.2.2.1)
      go_wp2_with (go_at_call 141;refine (HCL.out _).mono ?_;rintro e w' ⟨rfl,rfl⟩)
      go_returns
      refine ⟨?_,HTT.out⟩
      unfold ParseR
      dsimp only
      rw [if_neg (by rw [HO.out];exact h40)]
      exact ⟨_,rfl,rulesAt_of (by have:=H3.out.2.2.2;omega) (HI.out.2.2.1.touch0 H8.out) HO.out (HI.out.2.2.2.1.touch H8.out fun _ _ _ f=>f)⟩
    |some x=>
     obtain ⟨hd,hsn⟩:=drop_rsgn hx
     have hjl:j<n:=by have:=(List.getElem?_eq_some_iff.1 hx).1;have:=R.len;omega
     have x0:(0:Int)≤x:=by omega
     rw [if_neg (by rw [hd];simp)] at hPG
     rw [hsn] at HSG
     obtain ⟨FB,hFB⟩: ∃b,out.isEmpty=b:=⟨_,rfl⟩
     rw [hFB] at hPG
     have hk1:decide (k=0)=FB:=by rw [←hFB,←hk];cases out<;>simp
     have hk2:((k:Int)==0)=FB:=by rw [←hk1];by_cases h:k=0<;>simp [h]
     obtain ⟨RS,hRS⟩: ∃RS,ruleS FB (l.drop j)=RS:=⟨_,rfl⟩
     rw [hRS] at hPG
     have hless: ∀y,RS.1=some y→RS.2.length<(l.drop j).length:=fun y hy=>by
      rw [←hRS] at hy⊢
      exact Ux.Rules.ruleS_less hy
     have HPG:=Lib.hid (And.intro hPG (And.intro hless (And.intro hk (And.intro hkg (And.intro hjg hjl)))))
     have HRU:=Lib.hid fun W (hW:Ux.Touch (fun _=>False) wr W)=>prule_ q l a n c vat j FB W (R.touch hW)
     rw [hRS] at HRU
     clear hx hd hsn hPG hless hk hFB hRS R hat hG hTr T hbl hkg hjg hjl hjn
     go_wp2_with (go_at_call 139;fail)
     refine HSG.out.mono ?_
     rintro e w8 ⟨rfl,T8⟩
     have H8:=Lib.hid T8
     clear T8
     go_wp2_with (go_at_call 140;fail)
     refine (HRU.out w8 H8.out).mono ?_
     rintro e w9 ⟨hR9,j9,R9,hj9,T9⟩
     obtain ⟨o,r⟩:=RS
     cases o with
     |none=>
      obtain ⟨z,b1,m1,e1,b2,m2,e2,rfl⟩:=hR9
      have hPS:PS=(out,some r):=HPG.out.1.symm
      subst hPS
      have hat9:=(HI.out.2.1.touch0 H8.out).touch T9 fun b _ hb=>let ⟨cs,hk⟩:=(HI.out.2.1.touch0 H8.out).kind hb;rd_kind (HI.out.1.touch H8.out) b cs hk
      obtain ⟨W10,hW10⟩: ∃W,w9.alloc (.cells #[.int .i64 z,.slice b1 m1 e1,.slice b2 m2 e2] 117)=W:=⟨_,rfl⟩
      have T10:Ux.Touch (fun _=>False) w9 W10:=by rw [←hW10];exact (Ux.Touch.refl _ _).alloc _
      have hl9:j9<n+1:=by have:=R9.le;omega
      have hpg:=posL_get l (n+1) j9 hl9
      obtain ⟨av,cv,hvat,hcel⟩:=(hat9.touch0 T10).is
      obtain ⟨gv,rfl,_,hcv⟩:=hcel _ _ (Ux.iv_get (Ux.sv_get hpg))
      rw [show (iv (sv (posL l (n+1)))).length=n+1 by rw [Ux.iv_length,Ux.sv_length,posL_len]] at hvat
      have R10:=R9.touch T10
      rw [hvat] at R10
      obtain ⟨-,d1,d2,-⟩:=R10.cells
      have hP:posB s.size r=(put (l.take j9)).length:=by rw [←show l.drop j9=r from hj9];exact HL.out.2.2.1 j9
      obtain ⟨pz,hpz⟩: ∃p,(put (l.take j9)).length=p:=⟨_,rfl⟩
      rw [hpz] at hcv hP
      have k9:(j9:Int)<(n:Int)+1:=by omega
      have k90:(0:Int)≤j9:=by omega
      have k9n:j9<n+1:=hl9
      have TT:=H3.out.2.1.trans ((HI.out.2.2.2.2.1.trans H8.out fun _ _ f=>f.elim).trans (T9.trans T10 fun _ _ f=>f.elim) fun b _ e=>e) fun b hb e=>by have:=H3.out.2.2.2;omega
      have HTT:=Lib.hid (And.intro TT hP)
      have HW10:=Lib.hid hW10
      clear TT hP hat9 hcel hpg hl9 hvat R10 R9 hj9 T9 T10 hW10 hpz
      go_upto_region 15 with (fail)
      rw [HW10.out]
      refine Ux.wpr (fun _ w'=>w'.cell? ⟨q,1,none⟩=some (.slice (some ⟨gv,0,none⟩) (n+1:Nat) cv)∧w'.cell? ⟨q,2,none⟩=some (.int .i64 (j9:Int))∧w'.cell? ⟨gv,j9,none⟩=some (.int .i64 (pz:Int))) (.q [0,1,2,4,5,6,10] (.h false [3,7] (.q [8] (.h false [9] (.line [11,12]))))) ?_;repeat ((with_reducible refine Ux.qg ?_);refine Ux.qu ?_)
      clear d1 d2 hcv
      repeat ((with_reducible refine Ux.qg ?_);refine Ux.qu ?_)
      go_wp2
      go_returns
      refine ⟨?_,HTT.out.1.drew⟩
      unfold ParseR
      dsimp only
      rw [HTT.out.2]
      rfl
     |some y=>
      obtain ⟨v1,v2,rfl,hv1,hv2⟩:=hR9
      obtain ⟨b1,e1,rfl,_⟩:=hv1.is
      obtain ⟨b2,e2,rfl,_⟩:=hv2.is
      obtain ⟨m1,hm1⟩: ∃m,(iv (sv y.seq)).length=m:=⟨_,rfl⟩
      obtain ⟨m2,hm2⟩: ∃m,(iv (sv y.exp)).length=m:=⟨_,rfl⟩
      rw [hm1] at hv1⊢
      rw [hm2] at hv2⊢
      clear hm1 hm2
      obtain ⟨B,hB⟩: ∃B,w9.heap.size=B:=⟨_,rfl⟩
      obtain ⟨W10,hW10⟩: ∃W,w9.alloc (.cells #[.int .i64 (y.rel:Int),.slice b1 m1 e1,.slice b2 m2 e2] 117)=W:=⟨_,rfl⟩
      have T10:Ux.Touch (fun _=>False) w9 W10:=by rw [←hW10];exact (Ux.Touch.refl _ _).alloc _
      have hblk:W10.heap[B]? =some (.cells #[.int .i64 (y.rel:Int),.slice b1 m1 e1,.slice b2 m2 e2] 117 (0,0)):=by rw [←hW10,←hB];exact heap_alloc_new w9 _
      have x0:W10.cell? ⟨B,0,none⟩=some (.int .i64 (y.rel:Int)):=by rw [cell_of_row _ B 0 _ _ (0,0) hblk];rfl
      have x1:W10.cell? ⟨B,1,none⟩=some (.slice b1 m1 e1):=by rw [cell_of_row _ B 1 _ _ (0,0) hblk];rfl
      have x2:W10.cell? ⟨B,2,none⟩=some (.slice b2 m2 e2):=by rw [cell_of_row _ B 2 _ _ (0,0) hblk];rfl
      have hq1:q+1≤w8.heap.size:=by have:=HI.out.2.2.2.2.1.size;have:=H8.out.size;have:=HQ.out;omega
      have hq9:q+1≤w9.heap.size:=by have:=T9.size;omega
      have hG9:KGrow W10 (q+1) 117 3 (.slice a2 k c2) k xs:=((HI.out.2.2.1.touch0 H8.out).touch T9 fun b hb e=>by omega).touch0 T10
      have R10:=R9.touch T10
      have hat10:=((HI.out.2.1.touch0 H8.out).touch T9 fun b _ hb=>let ⟨cs,hk⟩:=(HI.out.2.1.touch0 H8.out).kind hb;rd_kind (HI.out.1.touch H8.out) b cs hk).touch0 T10
      have hTr10:TriQ W10 (q+1) (xs++ [.int .i64 (y.rel:Int),.slice b1 m1 e1,.slice b2 m2 e2]) (out++ [y]):=
       Tri.snoc (((HI.out.2.2.2.1.touch H8.out fun _ _ _ f=>f).touch T9 (rd_kind (HI.out.1.touch H8.out))).touch T10 fun _ _ _ f=>f) ⟨rfl,(Row.mono hv1 hq1).touch0 T10,(Row.mono hv2 hq1).touch0 T10⟩
      obtain ⟨r11,W11,c11,run11,hG11,T11⟩:=appR hG9 (by have:=T10.size;omega) (by have:=HPG.out.2.2.2.1;omega) (y.rel:Int) b1 m1 e1 b2 m2 e2
      have hnk: ∀g cs,W10.heap[g]? =some (Obj.cells cs 3 (0,0))→¬(q+1≤g∧∃cs',W10.heap[g]? =some (Obj.cells cs' 117 (0,0))):=fun g cs h1 h2=>by
       obtain ⟨_,cs',h2⟩:=h2
       rw [h1] at h2
       cases h2
      have R11:=R10.touchR T11 (fun hh=>by have:=hh.1;omega) (fun b hb=>let ⟨cs,hk⟩:=R10.row.kind hb;hnk b cs hk)
      have hat11:=hat10.touch T11 fun b _ hb=>let ⟨cs,hk⟩:=hat10.kind hb;hnk b cs hk
      have hTr11:=hTr10.touch T11 hnk
      have TT11:Ux.Touch (fun b=>b=q) W3 W11:=((HI.out.2.2.2.2.1.trans H8.out fun _ _ f=>f.elim).trans (T9.trans T10 fun _ _ f=>f.elim) fun b _ e=>e).trans T11 fun b hb hh=>by have:=hh.1;have:=HQ.out;omega
      have hjn9:n-j9<g':=by
       have h1:=HPG.out.2.1 y rfl
       rw [←hj9,List.length_drop,List.length_drop] at h1
       have:=H3.out.2.2.1
       have:=HPG.out.2.2.2.2.1
       omega
      have H11:=Lib.hid (And.intro R11 (And.intro hat11 (And.intro hG11 (And.intro hTr11 (And.intro TT11 (And.intro hjn9 hj9))))))
      have RUN:=Lib.hid run11
      have HBL:=Lib.hid (pblank_ q l a n c vat j9 W11 R11)
      have HWB:=Lib.hid (And.intro hW10 hB)
      clear hv1 hv2 hW10 T10 hblk hq1 hq9 hG9 R10 hat10 hTr10 run11 hG11 T11 hnk R11 hat11 hTr11 TT11 hjn9 hB R9 hj9 T9
      go_upto_region 14 with (fail)
      rw [HWB.out.1,HWB.out.2]
      go_wp2_with (first|(at_builtin;refine Ux.wpList_app (v1:= .slice a2 k c2) (x1:= .slice (some ⟨W10.heap.size,0,none⟩) 1 1) rfl _ _ _ _ rfl rfl rfl (RUN.out _) ?_)|(go_at_call 138;fail))
      refine HBL.out.mono ?_
      rintro e w12 ⟨rfl,j12,R12,hle,hj12,T12⟩
      have H12:=Lib.hid (And.intro R12 (And.intro hle (And.intro hj12 T12)))
      clear R12 hle hj12 T12 x0 x1 x2
      go_wp2
      go_roundg g'
      case measure=>omega
      case rel=>
       obtain ⟨R11,hat11,hG11,hTr11,TT11,hjn9,hj9⟩:=H11.out
       obtain ⟨R12,hle,hj12,T12⟩:=H12.out
       refine ⟨j12,k+1,r11,c11,out++ [y],_,rfl,by rw [List.length_append,HPG.out.2.2.1];rfl,by have:=HPG.out.2.2.2.1;omega,by omega,Lib.hid ⟨R12,hat11.touch T12 fun b _ hb=>let ⟨cs,hk⟩:=hat11.kind hb;rd_kind R11 b cs hk,hG11.touch T12 fun b hb e=>by omega,hTr11.touch T12 (rd_kind R11),TT11.trans T12 fun b _ e=>e,by rw [hj12,Ux.Rules.blankS_twice],?_⟩⟩
       rw [hj12,Ux.Rules.parseG_blank,hj9]
       exact HPG.out.1
end Go.Proofs.YtfccjaboicpohaaGreatDoor
