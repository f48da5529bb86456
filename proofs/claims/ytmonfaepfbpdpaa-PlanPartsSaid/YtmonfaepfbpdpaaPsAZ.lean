/- A part of the proof that the statement holds for every input that it names. No other condition. -/
import Derived.Test.YtmonfaepfbpdpaaUxNodAZ
import Derived.Test.YtmonfaepfbpdpaaRows
import Derived.Handy
import Derived.Laws.EntriesVeiled
import Derived.WalkSpells
import Derived.WalkLawsBesides
import Derived.BigQuiet
import Derived.Deep.Cut
import Derived.Deep.DeepCutAuto
import Derived.Lib.Overlaps
import Derived.Lib.Hide
import Derived.Test.YtmonfaepfbpdpaaUxOrdZ
import Derived.Test.YtmonfaepfbpdpaaUxFewZ
set_option linter.unusedVariables false
set_option linter.unusedSimpArgs false
namespace Go.Proofs.Ytmonfaepfbpdpaa
open Go.RowKit
open Ux (i64B)
def Tok (w:World) (q:Nat) (a:Option Addr) (n:Nat):Prop:= ∀i,i<n→∃g o k s m p,a=some ⟨g,o,none⟩∧g<q∧i64B k∧i64B m∧i64B p∧s.size≤4000∧
 w.cell? ⟨g,o+i*4,none⟩=some (.int .i64 k)∧w.cell? ⟨g,o+i*4+1,none⟩=some (.string s)∧w.cell? ⟨g,o+i*4+2,none⟩=some (.int .i64 m)∧w.cell? ⟨g,o+i*4+3,none⟩=some (.int .i64 p)
theorem Tok.touch {w w':World} {q:Nat} {a:Option Addr} {n:Nat} (h:Tok w q a n) (T:Ux.Touch (fun b=>b=q) w w'):Tok w' q a n:=fun i hi=>by
 obtain ⟨g,o,k,s,m,p,rfl,hg,h1,h2,h3,h4,c0,c1,c2,c3⟩:=h i hi
 exact ⟨g,o,k,s,m,p,rfl,hg,h1,h2,h3,h4,T.cell c0 (Nat.ne_of_lt hg),T.cell c1 (Nat.ne_of_lt hg),T.cell c2 (Nat.ne_of_lt hg),T.cell c3 (Nat.ne_of_lt hg)⟩
structure PS (w:World) (q:Nat) (a:Option Addr) (n c I E D:Nat):Prop where
 blk: ∃At End:Int,i64B At∧i64B End∧w.heap[q]? =some (.cells #[.slice a n c,.int .i64 (I:Int),.int .i64 (E:Int),.int .i64 At,.int .i64 (D:Int),.int .i64 End] 74 (0,0))
 tok:Tok w q a n
 hI:I≤n
 hn:n≤4000
 hc:n≤c
 hD:D≤24
 hE:E≤100
theorem PS.touch0 {w w':World} {q:Nat} {a:Option Addr} {n c I E D:Nat} (h:PS w q a n c I E D) (T:Ux.Touch (fun _=>False) w w'):PS w' q a n c I E D:=by
 obtain ⟨⟨At,End,h1,h2,hb⟩,ht,h3,h4,h5,h6,h7⟩:=h
 exact ⟨⟨At,End,h1,h2,T.heap hb (fun f=>f)⟩,ht.touch (T.mono fun _ _ f=>f.elim),h3,h4,h5,h6,h7⟩
theorem PS.touch {R:Nat→Prop} {w w':World} {q:Nat} {a:Option Addr} {n c I E D:Nat} (h:PS w q a n c I E D) (T:Ux.Touch R w w') (hR: ∀b,b≤q→¬R b):PS w' q a n c I E D:=by
 obtain ⟨⟨At,End,h1,h2,hb⟩,ht,h3,h4,h5,h6,h7⟩:=h
 refine ⟨⟨At,End,h1,h2,T.heap hb (hR q (Nat.le_refl _))⟩,fun i hi=> ?_,h3,h4,h5,h6,h7⟩
 obtain ⟨g,o,k,s,m,p,rfl,hg,g1,g2,g3,g4,c0,c1,c2,c3⟩:=ht i hi
 have hn:=hR g (Nat.le_of_lt hg)
 exact ⟨g,o,k,s,m,p,rfl,hg,g1,g2,g3,g4,T.cell c0 hn,T.cell c1 hn,T.cell c2 hn,T.cell c3 hn⟩
theorem PS.cells {w:World} {q:Nat} {a:Option Addr} {n c I E D:Nat} (h:PS w q a n c I E D):w.cell? ⟨q,0,none⟩=some (.slice a n c)∧w.cell? ⟨q,1,none⟩=some (.int .i64 (I:Int))∧w.cell? ⟨q,2,none⟩=some (.int .i64 (E:Int))∧w.cell? ⟨q,4,none⟩=some (.int .i64 (D:Int)):=by
 obtain ⟨⟨At,End,_,_,hb⟩,_⟩:=h
 exact ⟨by rw [cell_of_row w q 0 _ _ (0,0) hb];rfl,by rw [cell_of_row w q 1 _ _ (0,0) hb];rfl,by rw [cell_of_row w q 2 _ _ (0,0) hb];rfl,by rw [cell_of_row w q 4 _ _ (0,0) hb];rfl⟩
set_option maxHeartbeats 4000000 in
theorem kind_ (q:Nat) (a:Option Addr) (n c I E D:Nat) (w:World) (h:PS w q a n c I E D):
 Calls Try.prog 52 #[.pointer (some ⟨q,0,none⟩)] w fun e w'=> ∃k,e= .returned (.int .i64 k)∧(k≠0→I<n)∧i64B k∧Ux.Touch (fun _=>False) w w':=by
 obtain ⟨d0,d1,_,_⟩:=h.cells
 have n0:(n:Int)≤4000:=by have:=h.hn;omega
 have i0:(0:Int)≤I:=by omega
 have hcap:(n:Int)≤c:=by have:=h.hc;omega
 by_cases hI:I<n
 ·have i1:(I:Int)<n:=by omega
  obtain ⟨g,o,k,s,m,p,rfl,hg,b1,b2,b3,b4,c0,c1,c2,c3⟩:=h.tok I hI
  have HH:=Lib.hid (And.intro hI b1)
  clear h hI b1 b2 b3 b4 c1 c2 c3
  go_enter Try.func52,Try.ntmps52
  go_upto_region 1 with (fail)
  refine Ux.wpr (fun _ w'=>w'.cell? ⟨q,0,none⟩=some (.slice (some ⟨g,o,none⟩) n c)∧w'.cell? ⟨q,1,none⟩=some (.int .i64 (I:Int))) (.q [0,1,2,4,5,6] (.h false [3,7] (.q [8,9] (.line [])))) ?_;repeat ((with_reducible refine Ux.qg ?_);refine Ux.qu ?_)
  go_upto_region 2 with (fail)
  refine Ux.wpr (fun _ w'=>w'.cell? ⟨q,0,none⟩=some (.slice (some ⟨g,o,none⟩) n c)∧w'.cell? ⟨q,1,none⟩=some (.int .i64 (I:Int))∧w'.cell? ⟨g,o+I*4,none⟩=some (.int .i64 k)) (.q [0,1,2,4,5,6] (.h false [3,7] (.q [8,9] (.h false [10] (.line [11]))))) ?_;repeat ((with_reducible refine Ux.qg ?_);refine Ux.qu ?_)
  go_wp2_with (fail)
  go_returns
  exact ⟨k,rfl,fun _=>HH.out.1,HH.out.2,((Ux.Touch.refl _ _).drew).drew⟩
 ·have i1: ¬(I:Int)<n:=by omega
  clear h hI
  go_enter Try.func52,Try.ntmps52
  go_upto_region 1 with (fail)
  refine Ux.wpr (fun _ w'=>w'.cell? ⟨q,0,none⟩=some (.slice a n c)∧w'.cell? ⟨q,1,none⟩=some (.int .i64 (I:Int))) (.q [0,1,2,4,5,6] (.h false [3,7] (.q [8,9] (.line [])))) ?_;repeat ((with_reducible refine Ux.qg ?_);refine Ux.qu ?_)
  go_wp2_with (fail)
  go_returns
  exact ⟨0,rfl,fun h=>absurd rfl h,by unfold i64B;omega,(Ux.Touch.refl _ _).drew⟩
theorem is_ (q:Nat) (a:Option Addr) (n c I E D:Nat) (s:ByteArray) (w:World) (h:PS w q a n c I E D):
 Calls Try.prog 36 #[.pointer (some ⟨q,0,none⟩),.string s] w fun e w'=> ∃b,e= .returned (.bool b)∧(b=true→I<n)∧Ux.Touch (fun _=>False) w w':=by
 have HK:=Lib.hid (kind_ q a n c I E D w h)
 have HP:=Lib.hid fun w' (T:Ux.Touch (fun _=>False) w w')=>h.touch0 T
 clear h
 go_enter Try.func36,Try.ntmps36
 go_wp2_with (go_at_call 52;fail)
 refine HK.out.mono ?_
 rintro e w1 ⟨k,rfl,hk,hkb,T1⟩
 have HKK:=Lib.hid (And.intro hk (And.intro hkb T1))
 have h1:=HP.out w1 T1
 have n0:(n:Int)≤4000:=by have:=h1.hn;omega
 have i0:(0:Int)≤I:=by omega
 have hcap:(n:Int)≤c:=by have:=h1.hc;omega
 obtain ⟨d0,d1,_,_⟩:=h1.cells
 clear hk hkb T1
 obtain ⟨Z5,hZ5⟩: ∃b,(k==5)=b:=⟨_,rfl⟩
 obtain ⟨Z2,hZ2⟩: ∃b,(k==2)=b:=⟨_,rfl⟩
 have HZ:=Lib.hid (And.intro hZ5 hZ2)
 obtain ⟨Z,hZ⟩: ∃b,(Z5||Z2)=b:=⟨_,rfl⟩
 cases Z with
 |false=>
  have e5:Z5=false:=by cases Z5<;>simp_all
  have e2:Z2=false:=by cases Z2<;>simp_all
  subst e5
  subst e2
  clear h1 hZ
  go_upto_region 2 with (fail)
  refine Ux.wpr (fun _ w'=>w'.cell? ⟨q,0,none⟩=some (.slice a n c)∧w'.cell? ⟨q,1,none⟩=some (.int .i64 (I:Int))) (.q [0,1,2,3,4,5,6,7,8,9,11,12,13,18] (.h false [10,14] (.q [15,16] (.h false [17] (.q [19,20] (.line [21])))))) ?_;repeat ((with_reducible refine Ux.qg ?_);refine Ux.qu ?_)
  go_wp2_with (fail)
  go_returns
  exact ⟨false,rfl,(fun h=>(by cases h)),HKK.out.2.2.drew⟩
 |true=>
  have hk0:k≠0:=by
   rintro rfl
   have h5:Z5=false:=by rw [←HZ.out.1];rfl
   have h2:Z2=false:=by rw [←HZ.out.2];rfl
   rw [h5,h2] at hZ
   cases hZ
  have hI:=HKK.out.1 hk0
  obtain ⟨g,o,k',s',m,p,rfl,hg,b1,b2,b3,b4,c0,c1,c2,c3⟩:=h1.tok I hI
  have i1:(I:Int)<n:=by omega
  have HI:=Lib.hid hI
  clear h1 hk0 hI b1 b2 b3 b4 c0 c2 c3
  cases Z5 with
  |true=>
   clear hZ hZ2
   go_upto_region 2 with (fail)
   refine Ux.wpr (fun _ w'=>w'.cell? ⟨q,0,none⟩=some (.slice (some ⟨g,o,none⟩) n c)∧w'.cell? ⟨q,1,none⟩=some (.int .i64 (I:Int))∧w'.cell? ⟨g,o+I*4+1,none⟩=some (.string s')) (.q [0,1,2,3,4,5,6,7,8,9,11,12,13,18] (.h false [10,14] (.q [15,16] (.h false [17] (.q [19,20] (.line [21])))))) ?_;repeat ((with_reducible refine Ux.qg ?_);refine Ux.qu ?_)
   go_wp2_with (fail)
   go_returns
   exact ⟨_,rfl,fun _=>HI.out,HKK.out.2.2.drew⟩
  |false=>
   obtain rfl:Z2=true:=by simpa using hZ
   clear hZ
   go_upto_region 2 with (fail)
   refine Ux.wpr (fun _ w'=>w'.cell? ⟨q,0,none⟩=some (.slice (some ⟨g,o,none⟩) n c)∧w'.cell? ⟨q,1,none⟩=some (.int .i64 (I:Int))∧w'.cell? ⟨g,o+I*4+1,none⟩=some (.string s')) (.q [0,1,2,3,4,5,6,7,8,9,11,12,13,18] (.h false [10,14] (.q [15,16] (.h false [17] (.q [19,20] (.line [21])))))) ?_;repeat ((with_reducible refine Ux.qg ?_);refine Ux.qu ?_)
   go_wp2_with (fail)
   go_returns
   exact ⟨_,rfl,fun _=>HI.out,HKK.out.2.2.drew⟩
theorem PS.setI {w:World} {q:Nat} {a:Option Addr} {n c I E D:Nat} (h:PS w q a n c I E D) {J:Nat} (hJ:J≤n):PS (w.setCell ⟨q,1,none⟩ (.int .i64 (J:Int))) q a n c J E D∧Ux.Touch (fun b=>b=q) w (w.setCell ⟨q,1,none⟩ (.int .i64 (J:Int))):=by
 have T:Ux.Touch (fun b=>b=q) w (w.setCell ⟨q,1,none⟩ (.int .i64 (J:Int))):=(Ux.Touch.refl (fun b=>b=q) w).setCell (p:=⟨q,1,none⟩) (fun _=>rfl) _
 obtain ⟨⟨At,End,h1,h2,hb⟩,ht,h3,h4,h5,h6,h7⟩:=h
 exact ⟨⟨⟨At,End,h1,h2,Ux.setCell_row hb 1 _⟩,ht.touch T,hJ,h4,h5,h6,h7⟩,T⟩
theorem PS.setD {w:World} {q:Nat} {a:Option Addr} {n c I E D:Nat} (h:PS w q a n c I E D) {J:Nat} (hJ:J≤24):PS (w.setCell ⟨q,4,none⟩ (.int .i64 (J:Int))) q a n c I E J∧Ux.Touch (fun b=>b=q) w (w.setCell ⟨q,4,none⟩ (.int .i64 (J:Int))):=by
 have T:Ux.Touch (fun b=>b=q) w (w.setCell ⟨q,4,none⟩ (.int .i64 (J:Int))):=(Ux.Touch.refl (fun b=>b=q) w).setCell (p:=⟨q,4,none⟩) (fun _=>rfl) _
 obtain ⟨⟨At,End,h1,h2,hb⟩,ht,h3,h4,h5,h6,h7⟩:=h
 exact ⟨⟨⟨At,End,h1,h2,Ux.setCell_row hb 4 _⟩,ht.touch T,h3,h4,h5,hJ,h7⟩,T⟩
theorem PS.setE {w:World} {q:Nat} {a:Option Addr} {n c I E D:Nat} (h:PS w q a n c I E D) {J:Nat} (hJ:J≤100):PS (w.setCell ⟨q,2,none⟩ (.int .i64 (J:Int))) q a n c I J D∧Ux.Touch (fun b=>b=q) w (w.setCell ⟨q,2,none⟩ (.int .i64 (J:Int))):=by
 have T:Ux.Touch (fun b=>b=q) w (w.setCell ⟨q,2,none⟩ (.int .i64 (J:Int))):=(Ux.Touch.refl (fun b=>b=q) w).setCell (p:=⟨q,2,none⟩) (fun _=>rfl) _
 obtain ⟨⟨At,End,h1,h2,hb⟩,ht,h3,h4,h5,h6,h7⟩:=h
 exact ⟨⟨⟨At,End,h1,h2,Ux.setCell_row hb 2 _⟩,ht.touch T,h3,h4,h5,h6,hJ⟩,T⟩
theorem PS.setA {w:World} {q:Nat} {a:Option Addr} {n c I E D:Nat} (h:PS w q a n c I E D) {J:Int} (hJ:i64B J):PS (w.setCell ⟨q,3,none⟩ (.int .i64 J)) q a n c I E D∧Ux.Touch (fun b=>b=q) w (w.setCell ⟨q,3,none⟩ (.int .i64 J)):=by
 have T:Ux.Touch (fun b=>b=q) w (w.setCell ⟨q,3,none⟩ (.int .i64 J)):=(Ux.Touch.refl (fun b=>b=q) w).setCell (p:=⟨q,3,none⟩) (fun _=>rfl) _
 obtain ⟨⟨At,End,h1,h2,hb⟩,ht,h3,h4,h5,h6,h7⟩:=h
 exact ⟨⟨⟨J,End,hJ,h2,Ux.setCell_row hb 3 _⟩,ht.touch T,h3,h4,h5,h6,h7⟩,T⟩
theorem PS.frozen {w:World} {q:Nat} {a:Option Addr} {n c I E D:Nat} (h:PS w q a n c I E D) (k:Nat):w.frozen? ⟨q,k,none⟩=false:=by
 obtain ⟨⟨At,End,_,_,hb⟩,_⟩:=h
 exact Ux.frozen_row hb k
theorem PS.end {w:World} {q:Nat} {a:Option Addr} {n c I E D:Nat} (h:PS w q a n c I E D): ∃At End:Int,i64B At∧i64B End∧w.cell? ⟨q,3,none⟩=some (.int .i64 At)∧w.cell? ⟨q,5,none⟩=some (.int .i64 End):=by
 obtain ⟨⟨At,End,h1,h2,hb⟩,_⟩:=h
 exact ⟨At,End,h1,h2,by rw [cell_of_row w q 3 _ _ (0,0) hb];rfl,by rw [cell_of_row w q 5 _ _ (0,0) hb];rfl⟩
set_option maxHeartbeats 4000000 in
theorem fail_ (q:Nat) (a:Option Addr) (n c I E D:Nat) (x:Nat) (hx:x≤100) (X:Int) (hX:X=x) (w:World) (h:PS w q a n c I E D):
 Calls Try.prog 31 #[.pointer (some ⟨q,0,none⟩),.int .i64 X] w fun e w'=>e= .returned (.tuple #[])∧PS w' q a n c I (if E=0 then x else E) D∧Ux.Touch (fun b=>b=q) w w':=by
 obtain ⟨d0,d1,d2,_⟩:=h.cells
 subst hX
 by_cases hE:E=0
 ·subst hE
  obtain ⟨At,End,hAt,hEnd,d3,d5⟩:=h.end
  have n0:(n:Int)≤4000:=by have:=h.hn;omega
  have i0:(0:Int)≤I:=by omega
  have hcap:(n:Int)≤c:=by have:=h.hc;omega
  obtain ⟨h1,T1⟩:=h.setE hx
  obtain ⟨h2,T2⟩:=h1.setA hEnd
  have f2:=h.frozen 2
  have f3:=h1.frozen 3
  have f3':=h2.frozen 3
  by_cases hI:I<n
  ·have i1:(I:Int)<n:=by omega
   obtain ⟨g,o,k',s',m,p,rfl,hg,b1,b2,b3,b4,c0,c1,c2,c3⟩:=h.tok I hI
   obtain ⟨h3,T3⟩:=h2.setA b3
   have c3':=T1.cell c3 (Nat.ne_of_lt hg)
   have c3'':=T2.cell c3' (Nat.ne_of_lt hg)
   obtain ⟨e0,e1,_,_⟩:=h2.cells
   have HF:=Lib.hid (And.intro h3 ((T1.trans T2 fun _ _ e=>e).trans T3 fun _ _ e=>e))
   clear h h1 h2 h3 T1 T2 T3 hI b1 b2 b3 b4 c0 c1 c2 hAt hEnd hx
   go_enter Try.func31,Try.ntmps31
   go_upto_region 3 with (fail)
   refine Ux.wpr (fun _ w'=>w'.cell? ⟨q,0,none⟩=some (.slice (some ⟨g,o,none⟩) n c)∧w'.cell? ⟨q,1,none⟩=some (.int .i64 (I:Int))) (.q [0,1,2,4,5,6] (.h false [3,7] (.q [8,9] (.line [])))) ?_;repeat ((with_reducible refine Ux.qg ?_);refine Ux.qu ?_)
   go_upto_region 4 with (fail)
   refine Ux.wpr (fun _ w'=>w'.cell? ⟨q,0,none⟩=some (.slice (some ⟨g,o,none⟩) n c)∧w'.cell? ⟨q,1,none⟩=some (.int .i64 (I:Int))∧w'.cell? ⟨g,o+I*4+3,none⟩=some (.int .i64 p)) (.q [0,1,2,3,5,6,7] (.h false [4,8] (.q [9,10] (.h false [11] (.line [12,13,14]))))) ?_;repeat ((with_reducible refine Ux.qg ?_);refine Ux.qu ?_)
   go_wp2_with (fail)
   go_returns
   exact ⟨rfl,HF.out.1.touch0 (((Ux.Touch.refl _ _).drew).drew),(HF.out.2.drew).drew⟩
  ·have i1: ¬(I:Int)<n:=by omega
   obtain ⟨e0,e1,_,_⟩:=h2.cells
   have HF:=Lib.hid (And.intro h2 (T1.trans T2 fun _ _ e=>e))
   clear h h1 h2 T1 T2 hI hAt hEnd hx
   go_enter Try.func31,Try.ntmps31
   go_upto_region 3 with (fail)
   refine Ux.wpr (fun _ w'=>w'.cell? ⟨q,0,none⟩=some (.slice a n c)∧w'.cell? ⟨q,1,none⟩=some (.int .i64 (I:Int))) (.q [0,1,2,4,5,6] (.h false [3,7] (.q [8,9] (.line [])))) ?_;repeat ((with_reducible refine Ux.qg ?_);refine Ux.qu ?_)
   go_wp2_with (fail)
   go_returns
   exact ⟨rfl,HF.out.1.touch0 (Ux.Touch.refl _ _).drew,HF.out.2.drew⟩
 ·have k0:((E:Int) !=0)=true:=by
   have:((E:Int)==0)=false:=beq_false_of_ne (by omega)
   show (!((E:Int)==0))=true
   rw [this]
   rfl
  have k9:((E:Int)==0)=false:=beq_false_of_ne (by omega)
  have HF:=Lib.hid h
  rw [if_neg hE]
  clear h hE
  go_enter Try.func31,Try.ntmps31
  go_wp2_with (fail)
  go_returns
  exact ⟨rfl,HF.out,Ux.Touch.refl _ _⟩
def TakeP (w:World) (q:Nat) (a:Option Addr) (n c I E D:Nat) (b:Bool):Prop:=(b=true→E=0∧I<n)∧PS w q a n c (if b=true then I+1 else I) E D
def NameP (I E I' E':Nat):Prop:=(E'=0→E=0∧I'=I+1)∧I≤I'
def InP (w:World) (q:Nat) (a:Option Addr) (n c I E D:Nat) (b:Bool):Prop:=if b=true then E=0∧D<24∧PS w q a n c I 0 (D+1) else∃E',E'≠0∧PS w q a n c I E' D
def WantP (w:World) (q:Nat) (a:Option Addr) (n c I E D:Nat):Prop:= ∃I' E',I≤I'∧(E≠0→E'≠0)∧PS w q a n c I' E' D
set_option maxHeartbeats 4000000 in
theorem take_ (q:Nat) (a:Option Addr) (n c I E D:Nat) (s:ByteArray) (w:World) (h:PS w q a n c I E D):
 Calls Try.prog 40 #[.pointer (some ⟨q,0,none⟩),.string s] w fun e w'=> ∃b,e= .returned (.bool b)∧TakeP w' q a n c I E D b∧Ux.Touch (fun b=>b=q) w w':=by
 obtain ⟨d0,d1,d2,_⟩:=h.cells
 have HI:=Lib.hid (is_ q a n c I E D s w h)
 have HP:=Lib.hid h
 have hIn:=h.hI
 have n0:(n:Int)≤4000:=by have:=h.hn;omega
 have i0:(0:Int)≤I:=by omega
 have i2:(I:Int)≤n:=by omega
 clear h hIn
 by_cases hE:E=0
 ·subst hE
  go_enter Try.func40,Try.ntmps40
  go_wp2_with (go_at_call 36;fail)
  refine HI.out.mono ?_
  rintro e w1 ⟨b,rfl,hb,T1⟩
  have h1:=HP.out.touch0 T1
  have HT:=Lib.hid (And.intro hb (And.intro T1 h1))
  cases b with
  |false=>
   clear h1 hb T1
   go_wp2_with (fail)
   go_returns
   exact ⟨false,rfl,⟨(fun h=>(by cases h)),HT.out.2.2⟩,HT.out.2.1.mono fun _ _ f=>f.elim⟩
  |true=>
   have hlt:=hb rfl
   obtain ⟨h2,T2⟩:=h1.setI (J:=I+1) hlt
   have f1:=h1.frozen 1
   obtain ⟨_,e1,_,_⟩:=h1.cells
   have HF:=Lib.hid (And.intro h2 (And.intro hlt ((T1.mono (fun _ _ f=>f.elim):Ux.Touch (fun b=>b=q) w w1).trans T2 fun _ _ e=>e)))
   clear h1 hb T1 hlt h2 T2
   go_wp2_with (fail)
   go_returns
   exact ⟨true,rfl,⟨(fun _=>⟨rfl,HF.out.2.1⟩),HF.out.1⟩,HF.out.2.2⟩
 ·have k0:((E:Int) !=0)=true:=by
   have:((E:Int)==0)=false:=beq_false_of_ne (by omega)
   show (!((E:Int)==0))=true
   rw [this]
   rfl
  have k9:((E:Int)==0)=false:=beq_false_of_ne (by omega)
  clear hE HI
  go_enter Try.func40,Try.ntmps40
  go_wp2_with (fail)
  go_returns
  exact ⟨false,rfl,⟨(fun h=>(by cases h)),HP.out⟩,Ux.Touch.refl _ _⟩
set_option maxHeartbeats 4000000 in
theorem want_ (q:Nat) (a:Option Addr) (n c I E D:Nat) (s:ByteArray) (w:World) (h:PS w q a n c I E D):
 Calls Try.prog 53 #[.pointer (some ⟨q,0,none⟩),.string s] w fun e w'=>e= .returned (.tuple #[])∧WantP w' q a n c I E D∧Ux.Touch (fun b=>b=q) w w':=by
 have HT:=Lib.hid (take_ q a n c I E D s w h)
 clear h
 go_enter Try.func53,Try.ntmps53
 go_wp2_with (go_at_call 40;fail)
 refine HT.out.mono ?_
 rintro e w1 ⟨b,rfl,⟨hb,h1⟩,T1⟩
 cases b with
 |true=>
  have HF:=Lib.hid (And.intro hb (And.intro h1 T1))
  clear hb h1 T1
  go_wp2_with (fail)
  go_returns
  exact ⟨rfl,⟨I+1,E,by omega,fun h=>h,HF.out.2.1⟩,HF.out.2.2⟩
 |false=>
  have HFL:=Lib.hid (fail_ q a n c I E D 10 (by decide) 10 rfl w1 h1)
  have HF:=Lib.hid T1
  clear hb h1 T1
  go_wp2_with (go_at_call 31;fail)
  refine HFL.out.mono ?_
  rintro e w2 ⟨rfl,h2,T2⟩
  have HG:=Lib.hid (And.intro h2 (HF.out.trans T2 fun _ _ e=>e))
  clear h2 T2
  go_wp2_with (fail)
  go_returns
  exact ⟨rfl,⟨I,_,Nat.le_refl _,(fun h=>by rw [if_neg h];exact h),HG.out.1⟩,HG.out.2⟩
set_option maxHeartbeats 4000000 in
theorem name_ (q:Nat) (a:Option Addr) (n c I E D:Nat) (w:World) (h:PS w q a n c I E D):
 Calls Try.prog 41 #[.pointer (some ⟨q,0,none⟩)] w fun e w'=> ∃s I' E',e= .returned (.string s)∧s.size≤4000∧NameP I E I' E'∧PS w' q a n c I' E' D∧Ux.Touch (fun b=>b=q) w w':=by
 obtain ⟨d0,d1,d2,_⟩:=h.cells
 have HK:=Lib.hid (kind_ q a n c I E D w h)
 have HP:=Lib.hid h
 have n0:(n:Int)≤4000:=by have:=h.hn;omega
 have i0:(0:Int)≤I:=by omega
 have i2:(I:Int)≤n:=by have:=h.hI;omega
 have hcap:(n:Int)≤c:=by have:=h.hc;omega
 by_cases hE:E=0
 ·subst hE
  clear h
  go_enter Try.func41,Try.ntmps41
  go_wp2_with (go_at_call 52;fail)
  refine HK.out.mono ?_
  rintro e w1 ⟨k,rfl,hk,hkb,T1⟩
  have h1:=HP.out.touch0 T1
  have HT:=Lib.hid (And.intro hk (And.intro T1 h1))
  obtain ⟨Z,hZ⟩: ∃b,(k !=1)=b:=⟨_,rfl⟩
  cases Z with
  |true=>
   have HFL:=Lib.hid (fail_ q a n c I 0 D 10 (by decide) 10 rfl w1 h1)
   clear hk hkb T1 h1
   go_wp2_with (go_at_call 31;fail)
   refine HFL.out.mono ?_
   rintro e w2 ⟨rfl,h2,T2⟩
   have HG:=Lib.hid (And.intro h2 ((HT.out.2.1.mono (fun _ _ f=>f.elim):Ux.Touch (fun b=>b=q) w w1).trans T2 fun _ _ e=>e))
   clear h2 T2
   go_wp2_with (fail)
   go_returns
   exact ⟨_,I,_,rfl,by decide,⟨(fun h=>by cases h),Nat.le_refl _⟩,HG.out.1,HG.out.2⟩
  |false=>
   have hlt:I<n:=hk (by rintro rfl;cases hZ)
   obtain ⟨h2,T2⟩:=h1.setI (J:=I+1) hlt
   have f1:=h1.frozen 1
   obtain ⟨_,e1,_,_⟩:=h1.cells
   obtain ⟨x0,x1,_,_⟩:=h2.cells
   obtain ⟨g,o,k',s',m,p,rfl,hg,b1,b2,b3,b4,c0,c1,c2,c3⟩:=h2.tok I hlt
   have i3:(I:Int)<n:=by omega
   have HF:=Lib.hid (And.intro h2 (And.intro b4 ((HT.out.2.1.mono (fun _ _ f=>f.elim):Ux.Touch (fun b=>b=q) w w1).trans T2 fun _ _ e=>e)))
   have x1:(w1.setCell ⟨q,1,none⟩ (.int .i64 ((I+1:Nat):Int))).cell? ⟨q,1,none⟩=some (.int .i64 ((I:Int)+1)):=by rw [x1];rfl
   have hm:((I:Int)+1)-1=I:=by omega
   clear hk hkb T1 h1 hlt h2 T2 b1 b2 b3 b4 c0 c2 c3
   go_upto_region 5 with (fail)
   refine Ux.wpr (fun _ w'=>w'.cell? ⟨q,0,none⟩=some (.slice (some ⟨g,o,none⟩) n c)∧w'.cell? ⟨q,1,none⟩=some (.int .i64 ((I:Int)+1))∧w'.cell? ⟨g,o+I*4+1,none⟩=some (.string s')) (.q [0,1,2,4,5,6] (.h false [3,7] (.q [8,9,10] (.h false [11] (.line [12]))))) ?_;repeat ((with_reducible refine Ux.qg ?_);refine Ux.qu ?_)
   go_wp2_with (fail)
   go_returns
   exact ⟨s',I+1,0,rfl,HF.out.2.1,⟨(fun _=>⟨rfl,rfl⟩),by omega⟩,HF.out.1.touch0 (Ux.Touch.refl _ _).drew,HF.out.2.2.drew⟩
 ·have k0:((E:Int) !=0)=true:=by
   have:((E:Int)==0)=false:=beq_false_of_ne (by omega)
   show (!((E:Int)==0))=true
   rw [this]
   rfl
  have k9:((E:Int)==0)=false:=beq_false_of_ne (by omega)
  have HFL:=Lib.hid (fail_ q a n c I E D 10 (by decide) 10 rfl w h)
  have HE:=Lib.hid hE
  clear hE h HK
  go_enter Try.func41,Try.ntmps41
  go_wp2_with (go_at_call 31;fail)
  refine HFL.out.mono ?_
  rintro e w2 ⟨rfl,h2,T2⟩
  rw [if_neg HE.out] at h2
  have HG:=Lib.hid (And.intro h2 T2)
  clear h2 T2
  go_wp2_with (fail)
  go_returns
  exact ⟨_,I,E,rfl,by decide,⟨(fun h=>absurd h HE.out),Nat.le_refl _⟩,HG.out.1,HG.out.2⟩
set_option maxHeartbeats 4000000 in
theorem in_ (q:Nat) (a:Option Addr) (n c I E D:Nat) (w:World) (h:PS w q a n c I E D):
 Calls Try.prog 37 #[.pointer (some ⟨q,0,none⟩)] w fun e w'=> ∃b,e= .returned (.bool b)∧Ux.Touch (fun b=>b=q) w w'∧InP w' q a n c I E D b:=by
 obtain ⟨d0,d1,d2,d4⟩:=h.cells
 have HP:=Lib.hid h
 by_cases hE:E=0
 ·subst hE
  by_cases hD:D<24
  ·have q0: ¬((D:Int)≥24):=by omega
   have q1:(0:Int)≤D:=by omega
   have q2:(D:Int)≤24:=by omega
   obtain ⟨h2,T2⟩:=h.setD (J:=D+1) (by omega)
   have f4:=h.frozen 4
   have HF:=Lib.hid (And.intro h2 (And.intro T2 hD))
   clear h h2 T2 hD
   go_enter Try.func37,Try.ntmps37
   go_wp2_with (fail)
   go_returns
   first
    |exact ⟨true,rfl,HF.out.2.1,(by unfold InP;rw [if_pos rfl];exact ⟨rfl,HF.out.2.2,HF.out.1⟩)⟩
    |exact .inr ⟨rfl,HF.out.2.1,(by unfold InP;rw [if_pos rfl];exact ⟨rfl,HF.out.2.2,HF.out.1⟩)⟩
  ·have q0:((D:Int)≥24):=by omega
   have HFL:=Lib.hid (fail_ q a n c I 0 D 21 (by decide) 21 rfl w h)
   clear h hD
   go_enter Try.func37,Try.ntmps37
   go_wp2_with (go_at_call 31;fail)
   refine HFL.out.mono ?_
   rintro e w2 ⟨rfl,h2,T2⟩
   have HG:=Lib.hid (And.intro h2 T2)
   clear h2 T2
   go_wp2_with (fail)
   go_returns
   exact ⟨false,rfl,HG.out.2,by unfold InP;rw [if_neg (by simp)];exact ⟨21,by decide,HG.out.1⟩⟩
 ·have k0:((E:Int) !=0)=true:=by
   have:((E:Int)==0)=false:=beq_false_of_ne (by omega)
   show (!((E:Int)==0))=true
   rw [this]
   rfl
  have k9:((E:Int)==0)=false:=beq_false_of_ne (by omega)
  have HE:=Lib.hid hE
  clear hE h
  go_enter Try.func37,Try.ntmps37
  go_wp2_with (fail)
  go_returns
  exact ⟨false,rfl,Ux.Touch.refl _ _,by unfold InP;rw [if_neg (by simp)];exact ⟨E,HE.out,HP.out⟩⟩
end Go.Proofs.Ytmonfaepfbpdpaa
namespace Go.Proofs.Ytmonfaepfbpdpaa
open Go.RowKit
open Ux (i64B allocL)
def opsL:Nat→List (ByteArray×Int)
 |1=> [(⟨#[79,82]⟩,19),(⟨#[88,79,82]⟩,22)]
 |2=> [(⟨#[65,78,68]⟩,18)]
 |5=> [(⟨#[124]⟩,15),(⟨#[94]⟩,16)]
 |6=> [(⟨#[38]⟩,14)]
 |7=> [(⟨#[60,60]⟩,12),(⟨#[62,62]⟩,13)]
 |8=> [(⟨#[43]⟩,7),(⟨#[45]⟩,8),(⟨#[124,124]⟩,17)]
 |9=> [(⟨#[42]⟩,9),(⟨#[47]⟩,10),(⟨#[37]⟩,11)]
 |_=> []
def opCells (l:List (ByteArray×Int)):Array Value:=(l.flatMap fun p=> [Value.string p.1,Value.int .i64 p.2]).toArray
def opBlk:Nat→Nat
 |1=>0
 |2=>1
 |5=>2
 |6=>3
 |7=>4
 |8=>5
 |_=>6
def opSl (q L:Nat):Value:=if opsL L= [] then .slice none 0 0 else .slice (some ⟨q+opBlk L,0,none⟩) (opsL L).length (opsL L).length
def opObjs (q:Nat):List Obj:= [.cells (opCells (opsL 1)) 98,.cells (opCells (opsL 2)) 98,.cells (opCells (opsL 5)) 98,.cells (opCells (opsL 6)) 98,.cells (opCells (opsL 7)) 98,.cells (opCells (opsL 8)) 98,.cells (opCells (opsL 9)) 98,
 .cells #[.slice none 0 0,.slice (some ⟨q,0,none⟩) 2 2,.slice (some ⟨q+1,0,none⟩) 1 1,.slice none 0 0,.slice none 0 0,.slice (some ⟨q+1+1,0,none⟩) 2 2,.slice (some ⟨q+1+1+1,0,none⟩) 1 1,.slice (some ⟨q+1+1+1+1,0,none⟩) 2 2,.slice (some ⟨q+1+1+1+1+1,0,none⟩) 3 3,.slice (some ⟨q+1+1+1+1+1+1,0,none⟩) 3 3] 99]
theorem ops_len: ∀L,L<10→(opsL L).length≤3:=by decide
theorem ops_at {L i:Nat} {s:ByteArray} {o:Int} (h:(opsL L)[i]? =some (s,o)):i64B o:=by
 have: ∀p∈opsL L,i64B p.2:=by
  intro p hp
  unfold opsL at hp
  split at hp<;>simp at hp<;>(try rcases hp with rfl|rfl|rfl)<;>(try rcases hp with rfl|rfl)<;>(try subst hp)<;>(unfold i64B;decide)
 exact this _ (List.mem_of_getElem? h)
theorem opCells_at (l:List (ByteArray×Int)): ∀(i:Nat) (p:ByteArray×Int),l[i]? =some p→(opCells l)[i*2]? =some (.string p.1)∧(opCells l)[i*2+1]? =some (.int .i64 p.2):=by
 induction l with
 |nil=>intro i p h;simp at h
 |cons x l ih=>
  intro i p h
  unfold opCells at ih⊢
  rw [List.getElem?_toArray,List.getElem?_toArray]
  cases i with
  |zero=>
   cases h
   exact ⟨rfl,rfl⟩
  |succ i=>
   obtain ⟨h1,h2⟩:=ih i p (by simpa using h)
   rw [List.getElem?_toArray] at h1 h2
   rw [List.flatMap_cons,show (i+1)*2=i*2+2 by omega]
   exact ⟨h1,h2⟩
theorem ops_mem (w:World) (q:Nat) (hq:w.heap.size=q) (L:Nat) (hL:L<10):(allocL w (opObjs q)).cell? ⟨q+1+1+1+1+1+1+1,L,none⟩=some (opSl q L)∧
 ∀i p,(opsL L)[i]? =some p→∃g,opSl q L= .slice (some ⟨g,0,none⟩) (opsL L).length (opsL L).length∧(allocL w (opObjs q)).cell? ⟨g,i*2,none⟩=some (.string p.1)∧(allocL w (opObjs q)).cell? ⟨g,i*2+1,none⟩=some (.int .i64 p.2):=by
 have hb: ∀k o,(opObjs q)[k]? =some o→(allocL w (opObjs q)).heap[q+k]? =some o:=fun k o h=>by rw [←hq];rw [←hq] at h;exact Ux.allocL_at _ w k o h
 have h7:=hb 7 _ rfl
 refine ⟨?_,fun i p hp=> ?_⟩
 ·rw [cell_of_row _ (q+1+1+1+1+1+1+1) L _ _ (0,0) h7]
  have:L=0∨L=1∨L=2∨L=3∨L=4∨L=5∨L=6∨L=7∨L=8∨L=9:=by omega
  rcases this with rfl|rfl|rfl|rfl|rfl|rfl|rfl|rfl|rfl|rfl<;>rfl
 ·have key: ∀k,(opObjs q)[k]? =some (.cells (opCells (opsL L)) 98)→opSl q L= .slice (some ⟨q+k,0,none⟩) (opsL L).length (opsL L).length→_:=fun k h1 h2=>by
   have hh:=hb k _ h1
   obtain ⟨c1,c2⟩:=opCells_at (opsL L) i p hp
   exact (⟨q+k,h2,by rw [cell_of_row _ (q+k) _ _ _ (0,0) hh];exact c1,by rw [cell_of_row _ (q+k) _ _ _ (0,0) hh];exact c2⟩: ∃g,opSl q L= .slice (some ⟨g,0,none⟩) (opsL L).length (opsL L).length∧(allocL w (opObjs q)).cell? ⟨g,i*2,none⟩=some (.string p.1)∧(allocL w (opObjs q)).cell? ⟨g,i*2+1,none⟩=some (.int .i64 p.2))
  have:L=0∨L=1∨L=2∨L=3∨L=4∨L=5∨L=6∨L=7∨L=8∨L=9:=by omega
  rcases this with rfl|rfl|rfl|rfl|rfl|rfl|rfl|rfl|rfl|rfl
  ·cases hp
  ·exact key 0 rfl rfl
  ·exact key 1 rfl rfl
  ·cases hp
  ·cases hp
  ·exact key 2 rfl rfl
  ·exact key 3 rfl rfl
  ·exact key 4 rfl rfl
  ·exact key 5 rfl rfl
  ·exact key 6 rfl rfl
set_option maxHeartbeats 4000000 in
set_option maxRecDepth 100000 in
theorem opOf_ (q:Nat) (a:Option Addr) (n c I E D:Nat) (L:Nat) (hL:L<10) (w:World) (h:PS w q a n c I E D):
 Calls Try.prog 42 #[.pointer (some ⟨q,0,none⟩),.int .i64 (L:Int)] w fun e w'=> ∃o,e= .returned (.int .i64 o)∧(i64B o∧(o≠0→I<n))∧Ux.Touch (fun _=>False) w w':=by
 have HP:=Lib.hid h
 clear h
 obtain ⟨q0,hq⟩: ∃k,w.heap.size=k:=⟨_,rfl⟩
 obtain ⟨W,hW⟩: ∃W,allocL w (opObjs q0)=W:=⟨_,rfl⟩
 have tW:Ux.Touch (fun _=>False) w W:=by rw [←hW];exact Ux.allocL_touch _ _
 obtain ⟨m1,m2⟩:=ops_mem w q0 hq L hL
 rw [hW] at m1 m2
 obtain ⟨lo,co,hsl⟩: ∃a c,opSl q0 L= .slice a (opsL L).length c:=by
  unfold opSl
  split
  ·rename_i h;rw [h];exact ⟨none,0,rfl⟩
  ·exact ⟨_,_,rfl⟩
 obtain ⟨m,hm⟩: ∃m,(opsL L).length=m:=⟨_,rfl⟩
 have hm3:m≤3:=by rw [←hm];exact ops_len L hL
 rw [hsl,hm] at m1 m2
 have HM:=Lib.hid (And.intro m1 (And.intro m2 (And.intro hm tW)))
 have l0:(0:Int)≤L:=by omega
 have l1:(L:Int)<10:=by omega
 have HW:=Lib.hid (And.intro hW hq)
 clear m1 m2 hm tW hsl hL
 go_enter Try.func42,Try.ntmps42
 go_upto_region 2 with (fail)
 show Code.wp _ _ _ _ (allocL w (opObjs q0))
 rw [HW.out.1]
 have m0:(0:Int)≤m:=by omega
 have m3:(m:Int)≤3:=by omega
 go_wp2_with (fail)
 go_loopg [6] m (fun gk s6 wr=> ∃i:Nat,s6= .int .i64 i∧i+gk=m∧Hid (Ux.Touch (fun _=>False) W wr))
 case atStart=>exact ⟨0,rfl,by omega,Lib.hid (Ux.Touch.refl _ _)⟩
 case round=>
  obtain ⟨i,rfl,hig,HI⟩:=hrel
  have i0:(0:Int)≤i:=by omega
  have x1:=HI.out.cell HM.out.1 (fun f=>f)
  by_cases hlt:i<m
  ·obtain ⟨g',rfl⟩: ∃g',gk=g'+1:=⟨gk-1,by omega⟩
   have i1:(i:Int)<m:=by omega
   obtain ⟨p,hp⟩: ∃p,(opsL L)[i]? =some p:=⟨_,List.getElem?_eq_getElem (by have:=HM.out.2.2.1;omega)⟩
   obtain ⟨g,e1,c1,c2⟩:=HM.out.2.1 i p hp
   cases e1
   have hob:=ops_at (s:=p.1) (o:=p.2) hp
   have c1:=HI.out.cell c1 (fun f=>f)
   have c2:=HI.out.cell c2 (fun f=>f)
   have HC:=Lib.hid fun W' (T:Ux.Touch (fun _=>False) wr W')=>And.intro (T.cell x1 (fun f=>f)) (T.cell c2 (fun f=>f))
   have HB:=Lib.hid hob
   have HIS:=Lib.hid (is_ q a n c I E D p.1 wr (HP.out.touch0 (HM.out.2.2.2.trans HI.out fun _ _ f=>f)))
   clear hp hob hlt
   go_wp2_with (go_at_call 36;fail)
   refine HIS.out.mono ?_
   rintro e w5 ⟨b,rfl,hb,T5⟩
   obtain ⟨y1,y2⟩:=HC.out w5 T5
   have H5:=Lib.hid (And.intro hb (And.intro T5 (HI.out.trans T5 fun _ _ f=>f)))
   clear hb T5 x1 c1 c2
   cases b with
   |true=>
    go_wp2_with (fail)
    go_returns
    exact ⟨p.2,rfl,⟨HB.out,fun _=>H5.out.1 (by simp)⟩,HM.out.2.2.2.trans H5.out.2.2 fun _ _ f=>f⟩
   |false=>
    go_wp2_with (fail)
    go_roundg g'
    case measure=>omega
    case rel=>exact ⟨i+1,by congr 1,by omega,Lib.hid H5.out.2.2⟩
  ·have i1: ¬(i:Int)<m:=by omega
   clear hlt
   go_wp2_with (fail)
   go_returns
   exact ⟨0,rfl,⟨by unfold i64B;omega,fun h=>absurd rfl h⟩,HM.out.2.2.2.trans HI.out fun _ _ f=>f⟩
theorem TakeP.true {w:World} {q:Nat} {a:Option Addr} {n c I E D:Nat} (h:TakeP w q a n c I E D true):E=0∧I<n∧PS w q a n c (I+1) E D:=⟨(h.1 rfl).1,(h.1 rfl).2,h.2⟩
theorem TakeP.false {w:World} {q:Nat} {a:Option Addr} {n c I E D:Nat} (h:TakeP w q a n c I E D false):PS w q a n c I E D:=h.2
def TypedP (w:World) (q:Nat) (a:Option Addr) (n c I E D:Nat) (k:Int):Prop:=i64B k∧∃I' E',I≤I'∧(E≠0→E'≠0)∧PS w q a n c I' E' D
set_option maxHeartbeats 4000000 in
set_option maxRecDepth 100000 in
theorem typed_ (q:Nat) (a:Option Addr) (n c I E D:Nat) (w:World) (h:PS w q a n c I E D):
 Calls Try.prog 56 #[.pointer (some ⟨q,0,none⟩)] w fun e w'=> ∃k,e= .returned (.int .i64 k)∧TypedP w' q a n c I E D k∧Ux.Touch (fun b=>b=q) w w':=by
 obtain ⟨q0,hq⟩: ∃k,w.heap.size=k:=⟨_,rfl⟩
 obtain ⟨W,hW⟩: ∃W,w.alloc (.cells #[.string ⟨#[66,79,79,76]⟩,.string ⟨#[73,78,84]⟩,.string ⟨#[84,69,88,84]⟩] 9)=W:=⟨_,rfl⟩
 have tW:Ux.Touch (fun _=>False) w W:=by rw [←hW];exact (Ux.Touch.refl _ _).alloc _
 have hb:W.heap[q0]? =some (.cells #[.string ⟨#[66,79,79,76]⟩,.string ⟨#[73,78,84]⟩,.string ⟨#[84,69,88,84]⟩] 9 (0,0)):=by rw [←hW,←hq];exact heap_alloc_new w _
 have hqq:q<w.heap.size:=by obtain ⟨⟨_,_,_,_,hb⟩,_⟩:=h;exact Ux.lt_of_heap hb
 have hcl: ∀i,i<3→∃s,W.cell? ⟨q0,i,none⟩=some (.string s):=fun i hi=>by
  rw [cell_of_row W q0 i _ _ (0,0) hb]
  have:i=0∨i=1∨i=2:=by omega
  rcases this with rfl|rfl|rfl
  ·exact ⟨_,rfl⟩
  ·exact ⟨_,rfl⟩
  ·exact ⟨_,rfl⟩
 have HH:=Lib.hid (And.intro tW (And.intro hcl (And.intro (h.touch0 tW) (show q0≠q by omega))))
 have HW:=Lib.hid hW
 clear hb tW hcl h hqq
 go_enter Try.func56,Try.ntmps56
 go_wp2_with (fail)
 clear hW hq
 go_loopg [4] 3 (fun gk s4 wr=> ∃i:Nat,s4= .int .i64 i∧i+gk=3∧Hid (PS wr q a n c I E D∧Ux.Touch (fun b=>b=q) W wr))
 case atStart=>exact ⟨0,rfl,rfl,Lib.hid ⟨HH.out.2.2.1,Ux.Touch.refl _ _⟩⟩
 case round=>
  obtain ⟨i,rfl,hig,HI⟩:=hrel
  have i0:(0:Int)≤i:=by omega
  by_cases hlt:i<3
  ·obtain ⟨g',rfl⟩: ∃g',gk=g'+1:=⟨gk-1,by omega⟩
   have i1:(i:Int)<3:=by omega
   obtain ⟨s,hs⟩:=HH.out.2.1 i hlt
   have hs:=HI.out.2.cell hs HH.out.2.2.2
   have HT:=Lib.hid (take_ q a n c I E D s wr HI.out.1)
   clear hlt
   go_wp2_with (go_at_call 40;fail)
   refine HT.out.mono ?_
   rintro e w5 ⟨b,rfl,hb,T5⟩
   have H5:=Lib.hid (And.intro hb (HI.out.2.trans T5 fun _ _ e=>e))
   clear hb T5 hs
   cases b with
   |true=>
    go_wp2_with (fail)
    go_returns
    exact ⟨_,rfl,⟨by unfold i64B;omega,I+1,E,by omega,fun h=>h,H5.out.1.true.2.2⟩,(HH.out.1.mono (fun _ _ f=>f.elim):Ux.Touch (fun b=>b=q) w W).trans H5.out.2 fun _ _ e=>e⟩
   |false=>
    go_wp2_with (fail)
    go_roundg g'
    case measure=>omega
    case rel=>exact ⟨i+1,by congr 1,by omega,Lib.hid ⟨H5.out.1.false,H5.out.2⟩⟩
  ·have i1: ¬(i:Int)<3:=by omega
   have HF:=Lib.hid (fail_ q a n c I E D 10 (by decide) 10 rfl wr HI.out.1)
   clear hlt
   go_wp2_with (go_at_call 31;fail)
   refine HF.out.mono ?_
   rintro e w5 ⟨rfl,h5,T5⟩
   have H5:=Lib.hid (And.intro h5 (HI.out.2.trans T5 fun _ _ e=>e))
   clear h5 T5
   go_wp2_with (fail)
   go_returns
   exact ⟨0,rfl,⟨by unfold i64B;omega,I,_,Nat.le_refl _,(fun h=>by rw [if_neg h];exact h),H5.out.1⟩,(HH.out.1.mono (fun _ _ f=>f.elim):Ux.Touch (fun b=>b=q) w W).trans H5.out.2 fun _ _ e=>e⟩
end Go.Proofs.Ytmonfaepfbpdpaa
namespace Go.Proofs.Ytmonfaepfbpdpaa
open Go.RowKit
open Ux (i64B ND NRows nodV Nod)
def NP (w:World) (A:Nat→Prop) (v:Value):Prop:= ∃x,ND w A x v
def nod0:Array Value:= #[.int .i64 0,.int .i64 0,.string ⟨#[]⟩,.string ⟨#[]⟩,.int .i64 0,.slice none 0 0]
theorem i64_0:i64B 0:=by unfold i64B;omega
theorem NP.leaf (w:World) (A:Nat→Prop) (k o m:Int) (s t:ByteArray) (hk:i64B k) (ho:i64B o) (hm:i64B m) (hs:s.size≤4000) (ht:t.size≤4000):NP w A (.agg #[.int .i64 k,.int .i64 o,.string s,.string t,.int .i64 m,.slice none 0 0]):=
 ⟨.mk k o s t m [],ND.of_rows ⟨hk,ho,hm,by show s.size≤_;omega,by show t.size≤_;omega,by show 0≤_;omega⟩ (NRows.nil _ _)⟩
theorem NP.zero (w:World) (A:Nat→Prop):NP w A (.agg nod0):=NP.leaf w A 0 0 0 _ _ i64_0 i64_0 i64_0 (by decide) (by decide)
theorem NP.touch {R A:Nat→Prop} {w w':World} {v:Value} (h:NP w A v) (T:Ux.Touch R w w') (hR: ∀g,g<w.heap.size→A g→¬R g):NP w' A v:=by
 obtain ⟨x,hx⟩:=h
 exact ⟨x,hx.touch T hR⟩
theorem NP.touch0 {A:Nat→Prop} {w w':World} {v:Value} (h:NP w A v) (T:Ux.Touch (fun _=>False) w w'):NP w' A v:=h.touch T fun _ _ _ f=>f
theorem NP.mono {A A':Nat→Prop} {w:World} {v:Value} (h:NP w A v) (hA: ∀g,g<w.heap.size→A g→A' g):NP w A' v:=by
 obtain ⟨x,hx⟩:=h
 exact ⟨x,hx.mono hA⟩
theorem NP.six {w:World} {A:Nat→Prop} {v:Value} (h:NP w A v): ∃k o s t m ua un uc,v= .agg #[.int .i64 k,.int .i64 o,.string s,.string t,.int .i64 m,.slice ua un uc]:=by
 obtain ⟨x,hx⟩:=h
 obtain ⟨u,rfl,_,h⟩:=hx.open
 obtain ⟨a,c,rfl,_⟩:=h.is
 exact ⟨_,_,_,_,_,_,_,_,rfl⟩
theorem NP.node {w:World} {A:Nat→Prop} (k o m:Int) (s t:ByteArray) (hk:i64B k) (ho:i64B o) (hm:i64B m) (hs:s.size≤4000) (ht:t.size≤4000) (a:Option Addr) (n c:Nat) (hn:n≤c) (hb:n≤100000) (h: ∀i,i<n→∃u,Ux.SixAt w A a i u∧NP w A u):
 NP w A (.agg #[.int .i64 k,.int .i64 o,.string s,.string t,.int .i64 m,.slice a n c]):=by
 have hx: ∀n',n'≤n→∃l:List Nod,l.length=n'∧∀i y,l[i]? =some y→∃u,Ux.SixAt w A a i u∧ND w A y u:=by
  intro n'
  induction n' with
  |zero=>exact fun _=>⟨[],rfl,fun i y hy=>by simp at hy⟩
  |succ j ih=>
   intro hj
   obtain ⟨l,h1,h2⟩:=ih (by omega)
   obtain ⟨u,h3,x,h4⟩:=h j (by omega)
   refine ⟨l++ [x],by simp [h1],fun i y hy=> ?_⟩
   rw [List.getElem?_append] at hy
   split at hy
   ·exact h2 i y hy
   ·rename_i hi
    have hi0:i-l.length=0:=by
     have:=(List.getElem?_eq_some_iff.1 hy).1
     simp at this
     omega
    have hij:i=j:=by omega
    rw [hi0] at hy
    cases hy
    rw [hij]
    exact ⟨u,h3,h4⟩
 obtain ⟨l,h1,h2⟩:=hx n (Nat.le_refl _)
 have hr:NRows w A l (.slice a n c):=⟨a,c,by rw [h1],by rw [h1];exact hn,h2⟩
 exact ⟨.mk k o s t m l,ND.of_rows ⟨hk,ho,hm,by show s.size≤_;omega,by show t.size≤_;omega,by show l.length≤_;omega⟩ hr⟩
theorem six_row {w:World} {A:Nat→Prop} {g:Nat} {cur:Array Value} {ty:TypeId} (hb:w.heap[g]? =some (.cells cur ty (0,0))) (hA:A g) (i:Nat) (y0 y1 y2 y3 y4 y5:Value) (h0:cur[i*6]? =some y0) (h1:cur[i*6+1]? =some y1) (h2:cur[i*6+2]? =some y2) (h3:cur[i*6+3]? =some y3) (h4:cur[i*6+4]? =some y4) (h5:cur[i*6+5]? =some y5):
 Ux.SixAt w A (some ⟨g,0,none⟩) i (.agg #[y0,y1,y2,y3,y4,y5]):=by
 have key: ∀j y,cur[j]? =some y→w.cell? ⟨g,0+j,none⟩=some y:=fun j y h=>by rw [Nat.zero_add,cell_of_row w g j _ _ (0,0) hb];exact h
 have h0:=key _ _ h0
 have h1:=key _ _ h1
 have h2:=key _ _ h2
 have h3:=key _ _ h3
 have h4:=key _ _ h4
 have h5:=key _ _ h5
 exact ⟨g,0,y0,y1,y2,y3,y4,y5,rfl,hA,Ux.lt_of_heap hb,rfl,h0,h1,h2,h3,h4,h5⟩
def ExpP (I E I' E':Nat):Prop:=E'=0→E=0∧I≤I'
def ExpS (w:World) (q:Nat) (a:Option Addr) (n c I E D:Nat):Prop:= ∃I' E',ExpP I E I' E'∧PS w q a n c I' E' D
def ExpR (w0 w:World) (q:Nat) (a:Option Addr) (n c I E D:Nat) (v:Value):Prop:=NP w (fun g=>w0.heap.size≤g) v∧ExpS w q a n c I E D∧Ux.Touch (fun b=>b=q) w0 w
theorem PS.lt {w:World} {q:Nat} {a:Option Addr} {n c I E D:Nat} (h:PS w q a n c I E D):q<w.heap.size:=by obtain ⟨⟨_,_,_,_,hb⟩,_⟩:=h;exact Ux.lt_of_heap hb
theorem row6 {w:World} {b:Nat} {A:Array Value} {ty:TypeId} (h:w.heap[b]? =some (.cells A ty (0,0))) (k:Nat):w.cell? ⟨b,k,none⟩=A[k]? :=by rw [cell_of_row w b k _ _ (0,0) h]
set_option maxHeartbeats 4000000 in
set_option maxRecDepth 100000 in
theorem exprE_ (q:Nat) (a:Option Addr) (n c I E D:Nat) (L:Int) (w:World) (h:PS w q a n c I E D) (hE:E≠0):
 Calls Try.prog 30 #[.pointer (some ⟨q,0,none⟩),.int .i64 L] w fun e w'=>e= .returned (.agg nod0)∧ExpR w w' q a n c I E D (.agg nod0):=by
 have k0:((E:Int) !=0)=true:=by
  have:((E:Int)==0)=false:=beq_false_of_ne (by omega)
  show (!((E:Int)==0))=true
  rw [this]
  rfl
 have k9:((E:Int)==0)=false:=beq_false_of_ne (by omega)
 obtain ⟨b4,hb4⟩: ∃b,w.heap.size=b:=⟨_,rfl⟩
 obtain ⟨W1,hW1⟩: ∃W,w.alloc (.cells #[.int .i64 0,.int .i64 0,.string ⟨#[]⟩,.string ⟨#[]⟩,.int .i64 0,.slice none 0 0] 24)=W:=⟨_,rfl⟩
 have t1:Ux.Touch (fun _=>False) w W1:=by rw [←hW1];exact (Ux.Touch.refl _ _).alloc _
 have r4:W1.heap[b4]? =some (.cells #[.int .i64 0,.int .i64 0,.string ⟨#[]⟩,.string ⟨#[]⟩,.int .i64 0,.slice none 0 0] 24 (0,0)):=by rw [←hW1,←hb4];exact heap_alloc_new w _
 have h1:=h.touch0 t1
 obtain ⟨d0,d1,d2,d4⟩:=h1.cells
 have hqq:=h.lt
 have HP:=Lib.hid (And.intro h1 (And.intro hE (And.intro t1 (And.intro (show q<b4 by omega) r4))))
 clear h hE h1 t1 hqq
 go_enter Try.func30,Try.ntmps30
 go_wp2_with (refine Ux.is_store 24 rfl ?_;refine Ux.store6 rfl 24 _ _ rfl b4 _ _ _ _ _ _ rfl rfl 24 _ _ _ _ _ _ r4 (by kernel_rfl) (Ux.six_one _ _ _ _ _ _ _ _) ?_)
 intro W2 r2 t2
 go_wp2_with (fail)
 have x0:=row6 r2 0
 have x1:=row6 r2 1
 have x2:=row6 r2 2
 have x3:=row6 r2 3
 have x4:=row6 r2 4
 have x5:=row6 r2 5
 simp at x0 x1 x2 x3 x4 x5
 refine bodyPost_ret (by simp [results,Try.results30,go_sem,x0,x1,x2,x3,x4,x5];try rfl) rfl ?_
 have T2:Ux.Touch (fun _=>False) w W2:=HP.out.2.2.1.trans (R:=fun _=>False) t2 fun b hb e=>by omega
 exact ⟨rfl,NP.zero _ _,⟨I,E,fun h=>absurd h HP.out.2.1,HP.out.1.touch t2 fun b hb e=>by have:=HP.out.2.2.2.1;omega⟩,T2.mono fun _ _ f=>f.elim⟩
end Go.Proofs.Ytmonfaepfbpdpaa
