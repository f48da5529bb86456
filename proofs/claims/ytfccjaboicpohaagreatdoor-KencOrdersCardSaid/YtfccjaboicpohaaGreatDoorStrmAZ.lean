/- A part of the proof that the statement holds for every input that it names. No other condition. -/
import Derived.Test.YtfccjaboicpohaaGreatDoorUxKeyAZ
import Derived.Test.YtfccjaboicpohaaGreatDoorUxRngAZ
import Derived.Lib.OwnKind
import Derived.Test.YtfccjaboicpohaaGreatDoorCollAZ
import Derived.Test.YtfccjaboicpohaaGreatDoorReadAZ
set_option linter.unusedVariables false
set_option linter.unusedSimpArgs false
namespace Go.Proofs.YtfccjaboicpohaaGreatDoor
open Go.RowKit
open Ux (Row iv sv bv ev Ent)
def encB (x:UInt8):Array Value:= #[.int .u8 (x.toNat:Int)]
def BoxS (W:World) (b2:Nat) (kd:Int) (s:ByteArray):Prop:= ∃x,W.heap[b2]? =some (.cells #[.string x] 9 (0,0))∧(x=s∨kd=2∧x=ftB s)
def ItS (b2:Nat) (kd:Int) (s:ByteArray) (W W':World):Prop:=Ux.Touch (fun b=>b=b2) W W'∧(BoxS W b2 kd s→BoxS W' b2 kd s)
theorem ItS.of0 {b2:Nat} {kd:Int} {s:ByteArray} {W W':World} (T:Ux.Touch (fun _=>False) W W'):ItS b2 kd s W W':=
 ⟨T.mono (fun _ _ f=>f.elim),fun ⟨x,h1,h2⟩=>⟨x,T.heap h1 (fun f=>f),h2⟩⟩
def CrS (S b1 b2:Nat) (C:World→Nat→Prop):Prop:= ∀W b,C W b→(b<S∧b≠b1∧b≠b2)∨∃cs fz,W.heap[b]? =some (.cells cs 5 fz)
theorem CrS.not {S b1 b2:Nat} {C:World→Nat→Prop} (h:CrS S b1 b2 C) {W:World} {g:Nat} {cs:Array Value} {t:TypeId} {fz:Nat×Nat} (hg:W.heap[g]? =some (.cells cs t fz)) (ht:t≠5) (hs:g=b1∨g=b2∨S≤g): ¬C W g:=fun hc=>by
 rcases h W g hc with ⟨h1,h2,h3⟩|⟨cs',fz',h1⟩
 ·rcases hs with rfl|rfl|hs
  ·exact h2 rfl
  ·exact h3 rfl
  ·omega
 ·rw [hg] at h1
  cases h1
  exact ht rfl
theorem ftB_twice (s:ByteArray):ftB (ftB s)=ftB s:=by
 unfold ftB
 congr 1
 show (Ux.Sign.foldText (Ux.Sign.foldText s.data.toList).toArray.toList).toArray=_
 rw [List.toList_toArray,Ux.Sign.foldText_twice]
theorem ftB_size (s:ByteArray):(ftB s).size≤4*s.size:=by
 have h1:=put_len ((Ux.Sign.signs s.data.toList).map Ux.Sign.foldN)
 have h2:=signs_len s.data.toList
 have e:s.data.toList.length=s.size:=rfl
 rw [List.length_map] at h1
 show ((Ux.Sign.foldText s.data.toList).toArray).size≤_
 rw [List.size_toArray]
 unfold Ux.Sign.foldText
 omega
set_option maxHeartbeats 16000000 in
set_option maxRecDepth 100000 in
theorem iterA_ (l:Nat) (kd lv:Int) (sh bk:Bool) (tb:Option Addr) (hk:okC kd lv tb=false∨kd=1∨kd=2) (s X:ByteArray) (hX:X=if kd=2 then ftB s else s) (hs:s.size≤1000000) (C:World→Nat→Prop) (J Jx:List UInt8→World→Prop) (W:World) (b1 b2:Nat) (hT:Tabs W)
 (hR:Ux.RoundsR Tryz.prog encB l X.data.toList C (ItS b2 kd s) J Jx) (hC:CrS W.heap.size b1 b2 C)
 (hc1:W.heap[b1]? =some (.cells #[.int .i64 kd,.int .i64 lv,.bool sh,.bool bk,.pointer tb] 66 (0,0))) (hc2:BoxS W b2 kd s) (h0:J [] W):
 Calls Tryz.prog 178 #[.func (.yield l) #[] #[],.pointer (some ⟨b1,0,none⟩),.pointer (some ⟨b2,0,none⟩)] W (Ux.RngDone X.data.toList J Jx):=by
 obtain ⟨want,hw⟩: ∃want,X.data.toList=want:=⟨_,rfl⟩
 obtain ⟨n,hn⟩: ∃n,X.size=n:=⟨_,rfl⟩
 have hwl:want.length=n:=by rw [←hw,←hn];simp
 have hg: ∀(i:Nat) (h:i<X.size),want[i]? =some X[i]:=fun i h=>by rw [←hw];exact Lib.data_getElem? X i h
 rw [hw] at hR
 rw [hw]
 have hn4:n≤4000000:=by
  rw [←hn,hX]
  split
  ·have:=ftB_size s;omega
  ·omega
 have j0:(n:Int)≤4000000:=by omega
 have HO:=Lib.hid fun W=>cok_ kd lv sh bk tb W
 unfold cV at HO
 obtain ⟨x,hx,hxs⟩:=hc2
 have HF:=Lib.hid fun W (T:Ux.Touch (fun _=>False) W W)=>trivial
 clear HF
 have HR:=Lib.hid (And.intro hR (And.intro hC (And.intro h0 hn)))
 have HH:=Lib.hid (And.intro hwl (And.intro hg hw))
 have cells: ∀W',Ux.Touch (fun _=>False) W W'→W'.cell? ⟨b1,0,none⟩=some (.int .i64 kd)∧W'.cell? ⟨b1,1,none⟩=some (.int .i64 lv)∧W'.cell? ⟨b1,2,none⟩=some (.bool sh)∧W'.cell? ⟨b1,3,none⟩=some (.bool bk)∧W'.cell? ⟨b1,4,none⟩=some (.pointer tb):=fun W' T=>by
  have h:=T.heap hc1 (fun f=>f)
  refine ⟨?_,?_,?_,?_,?_⟩
  ·rw [cell_of_row W' b1 0 _ _ (0,0) h];rfl
  ·rw [cell_of_row W' b1 1 _ _ (0,0) h];rfl
  ·rw [cell_of_row W' b1 2 _ _ (0,0) h];rfl
  ·rw [cell_of_row W' b1 3 _ _ (0,0) h];rfl
  ·rw [cell_of_row W' b1 4 _ _ (0,0) h];rfl
 have HCE:=Lib.hid cells
 have HX:=Lib.hid (And.intro hX (And.intro hxs (And.intro hx (And.intro hs hT))))
 clear hR hC h0 hwl hg hw hn4 hx hxs hc1 hT cells hX hs
 obtain ⟨c0,c1,c2,c3,c4⟩:=HCE.out W (Ux.Touch.refl _ _)
 have fin: ∀w3,Ux.Touch (fun _=>False) W w3→x=X→w3.heap[b2]? =some (.cells #[.string X] 9 (0,0))∧J [] w3:=fun w3 T e=>by
  subst e
  exact ⟨T.heap HX.out.2.2.1 (fun f=>f),HR.out.1.stays _ _ _ HR.out.2.2.1 (ItS.of0 T)⟩
 have HFIN:=Lib.hid fin
 clear fin
 go_enter Tryz.func178,Tryz.ntmps178
 go_wp2_with (go_at_call 73;fail)
 refine (HO.out _).mono ?_
 rintro e w2 ⟨rfl,T2⟩
 have H2:=Lib.hid T2
 clear T2 c0 c1 c2 c3 c4
 obtain ⟨c0,c1,c2,c3,c4⟩:=HCE.out w2 H2.out
 rcases hk with hk|rfl|rfl
 case' inl=>
  have hkd:kd≠2:=fun e=>by subst e;simp [okC] at hk
  have hxX:x=X:=by
   have h1:=HX.out.1
   rw [if_neg hkd] at h1
   rcases HX.out.2.1 with h|⟨h,_⟩
   ·rw [h,h1]
   ·exact absurd h hkd
  rw [hk] at HO⊢
  clear hk hkd
  go_wp2_with (go_at_call 73;fail)
  refine (HO.out _).mono ?_
  rintro e w3 ⟨rfl,T3⟩
  have H3:=Lib.hid (HFIN.out w3 (H2.out.trans T3 fun _ _ f=>f) hxX)
  clear T3 c0 c1 c2 c3 c4 hxX HFIN
 case' inr.inl=>
  have hxX:x=X:=by
   have h1:=HX.out.1
   rw [if_neg (by decide)] at h1
   rcases HX.out.2.1 with h|⟨h,_⟩
   ·rw [h,h1]
   ·exact absurd h (by decide)
  rw [show okC 1 lv tb=true from rfl] at HO⊢
  go_wp2_with (go_at_call 73;fail)
  refine (HO.out _).mono ?_
  rintro e w3 ⟨rfl,T3⟩
  have H3:=Lib.hid (HFIN.out w3 (H2.out.trans T3 fun _ _ f=>f) hxX)
  have H3c:=Lib.hid (HCE.out w3 (H2.out.trans T3 fun _ _ f=>f))
  clear T3 c0 c1 c2 c3 c4 hxX HFIN
  obtain ⟨c0,-⟩:=H3c.out
 case' inr.inr=>
  rw [show okC 2 lv tb=true from rfl] at HO⊢
  go_wp2_with (go_at_call 73;fail)
  refine (HO.out _).mono ?_
  rintro e w3' ⟨rfl,T3⟩
  have T03:=H2.out.trans T3 fun _ _ f=>f
  have H3c:=Lib.hid (HCE.out w3' T03)
  have hb3:=T03.heap HX.out.2.2.1 (fun f=>f)
  have HFT:=Lib.hid (ft_ x w3' (by
   rcases HX.out.2.1 with h|⟨_,h⟩
   ·have:=HX.out.2.2.2.1;rw [h];omega
   ·have:=HX.out.2.2.2.1;have:=ftB_size s;rw [h];omega) (HX.out.2.2.2.2.touch T03))
  have hXx:(⟨(Ux.Sign.foldText x.data.toList).toArray⟩:ByteArray)=X:=by
   have h1:=HX.out.1
   rw [if_pos trivial] at h1
   show ftB x=X
   rcases HX.out.2.1 with h|⟨_,h⟩
   ·rw [h,h1]
   ·rw [h,ftB_twice,h1]
  rw [hXx] at HFT
  have H3:=Lib.hid (And.intro T03 hb3)
  clear T3 T03 hb3 c0 c1 c2 c3 c4 HFIN hXx
  obtain ⟨c0,-⟩:=H3c.out
  have d0:w3'.cell? ⟨b2,0,none⟩=some (.string x):=by rw [cell_of_row w3' b2 0 _ _ (0,0) H3.out.2];rfl
  go_wp2_with (go_at_call 170;fail)
  refine HFT.out.mono ?_
  rintro e w4 ⟨rfl,T4⟩
  have hb4:=T4.heap H3.out.2 (fun f=>f)
  have f4:w4.frozen? ⟨b2,0,none⟩=false:=frozen_of_row w4 b2 0 _ _ hb4
  have d4:w4.cell? ⟨b2,0,none⟩=some (.string x):=by rw [cell_of_row w4 b2 0 _ _ (0,0) hb4];rfl
  have hb5:(w4.setCell ⟨b2,0,none⟩ (.string X)).heap[b2]? =some (.cells #[.string X] 9 (0,0)):=heap_setCell_same w4 b2 0 _ _ _ hb4
  have T5:Ux.Touch (fun b=>b=b2) W (w4.setCell ⟨b2,0,none⟩ (.string X)):=(((H3.out.1.trans T4 fun _ _ f=>f).mono (fun _ _ f=>f.elim):Ux.Touch (fun b=>b=b2) W w4)).setCell (p:=⟨b2,0,none⟩) (fun _=>rfl) _
  have hJ5:J [] (w4.setCell ⟨b2,0,none⟩ (.string X)):=HR.out.1.stays _ _ _ HR.out.2.2.1 ⟨T5,fun _=>⟨X,hb5,.inr ⟨rfl,by have h1:=HX.out.1;rwa [if_pos trivial] at h1⟩⟩⟩
  obtain ⟨w3,hw3⟩: ∃w3,w4.setCell ⟨b2,0,none⟩ (.string X)=w3:=⟨_,rfl⟩
  rw [hw3] at hb5 T5 hJ5
  have H3':=Lib.hid (And.intro hb5 hJ5)
  clear H3 d0 hb4 T4 T5 hJ5 hb5 c0 H3c
  have d5:w3.cell? ⟨b2,0,none⟩=some (.string X):=by rw [cell_of_row w3 b2 0 _ _ (0,0) H3'.out.1];rfl
  have H3:=H3'
  clear H3'
  go_wp2_with (fail)
  clear d5 f4 d4
 all_goals
  have d0:w3.cell? ⟨b2,0,none⟩=some (.string X):=by rw [cell_of_row w3 b2 0 _ _ (0,0) H3.out.1];rfl
  go_wp2_with (fail)
  clear d0
  go_loopg [29] n (fun g' s29 wr=> ∃i:Nat,s29= .int .i64 i∧i+g'=n∧Hid (wr.heap[b2]? =some (.cells #[.string X] 9 (0,0))∧J (want.take i) wr))
  case atStart=>exact ⟨0,rfl,by omega,H3⟩
  case round=>
   obtain ⟨i,rfl,hig,HI⟩:=hrel
   have p0:(0:Int)≤i:=by omega
   have d0:wr.cell? ⟨b2,0,none⟩=some (.string X):=by rw [cell_of_row wr b2 0 _ _ (0,0) HI.out.1];rfl
   by_cases hlt:i<n
   ·obtain ⟨g',rfl⟩: ∃g',gk=g'+1:=⟨gk-1,by omega⟩
    have j1:(i:Int)<n:=by omega
    have his:i<X.size:=by have:=HR.out.2.2.2;omega
    have hgx:=HH.out.2.1 i his
    obtain ⟨y,hy⟩: ∃y:UInt8,X[i]'his=y:=⟨_,rfl⟩
    rw [hy] at hgx
    obtain ⟨fn,tmps,assign,bd,hyd,hRI⟩:=HR.out.1.round i y wr hgx HI.out.2
    unfold encB at hyd
    have HRI:=Lib.hid hRI
    clear hRI hgx
    go_upto_region 6 with (fail)
    refine (wpIn_wide (n:=6)).1 ?_
    gi_wp2_with (fail)
    refine HRI.out.mono ?_
    rintro e w6 hres
    rcases hres with ⟨rfl,J6,T6⟩|⟨rfl,JX6⟩
    ·have h6:=T6.heap HI.out.1 (HR.out.2.1.not HI.out.1 (by decide) (.inr (.inl rfl)))
     have H6:=Lib.hid (And.intro h6 J6)
     clear h6 J6 T6 hyd d0
     gi_wp2_with (fail)
     go_wp2_with (fail)
     go_roundg g'
     case measure=>omega
     case rel=>exact ⟨i+1,rfl,by omega,H6⟩
    ·have HXX:=Lib.hid JX6
     have hil:i<want.length:=by have:=HH.out.1;omega
     clear hyd d0 JX6
     gi_wp2_with (fail)
     go_wp2_with (fail)
     go_returns
     exact ⟨⟨_,rfl⟩,.inr ⟨i,hil,HXX.out⟩⟩
   ·obtain rfl:i=n:=by omega
    have q1: ¬(i:Int)<i:=by omega
    clear hlt
    go_wp2_with (fail)
    go_returns
    refine ⟨⟨_,rfl⟩,.inl ?_⟩
    have:=HI.out.2
    rwa [List.take_of_length_le (by have:=HH.out.1;omega)] at this
end Go.Proofs.YtfccjaboicpohaaGreatDoor
namespace Go.Proofs.YtfccjaboicpohaaGreatDoor
open Go.RowKit
open Ux (Row iv sv bv ev Ent encW keyL strmL lvlW wts)
theorem ok3 (LN:Nat) (h:1≤LN∧LN≤3) (p:Addr):okC 3 (LN:Int) (some p)=true:=by
 unfold okC
 simp
 omega
theorem rnd_at {l:Nat} {want:List UInt8} {C:World→Nat→Prop} {It:World→World→Prop} {J Jx:List UInt8→World→Prop} (hR:Ux.RoundsR Tryz.prog encB l want C It J Jx) (pre:List UInt8) (x:UInt8) (W:World) (hp:pre++ [x]<+:want) (hJ:J pre W):
 YieldAt Fence.wide 5 Tryz.prog l #[.int .u8 (x.toNat:Int)] W fun e W'=>(e= .returned (.bool true)∧J (pre++ [x]) W'∧Ux.Touch (C W) W W')∨(e= .returned (.bool false)∧∃j,j<want.length∧Jx (want.take (j+1)) W'):=by
 obtain ⟨e1,e2⟩:=Ux.prefix_at (List.prefix_append pre [x]|>.trans hp) [x] hp
 have hg:want[pre.length]? =some x:=by
  obtain ⟨t,rfl⟩:=hp
  rw [List.append_assoc,List.getElem?_append_right (Nat.le_refl _),Nat.sub_self]
  rfl
 have h:=hR.round pre.length x W hg (by rw [e1];exact hJ)
 have e3:want.take (pre.length+1)=pre++ [x]:=e2
 rw [e3] at h
 obtain ⟨fn,tmps,assign,bd,hy,hRI⟩:=h
 refine ⟨fn,tmps,assign,bd,hy,hRI.mono ?_⟩
 rintro e W' (⟨h1,h2,h3⟩|⟨h1,h2⟩)
 ·exact .inl ⟨h1,h2,h3⟩
 ·refine .inr ⟨h1,pre.length,?_,by rw [e3];exact h2⟩
  exact (List.getElem?_eq_some_iff.1 hg).1
set_option maxHeartbeats 16000000 in
set_option maxRecDepth 100000 in
theorem iterT_ (l:Nat) (LN:Nat) (hlv:1≤LN∧LN≤3) (sh bk:Bool) (B mb:Nat) (E:List Ent) (s:ByteArray) (hs:s.size≤1000000) (C:World→Nat→Prop) (J Jx:List UInt8→World→Prop) (W:World) (b1 b2:Nat) (hT:Tabs W) (hE:TableAt W B mb E)
 (hR:Ux.RoundsR Tryz.prog encB l (keyL sh bk (elB E s) LN) C (ItS b2 3 s) J Jx) (hC:CrS W.heap.size b1 b2 C)
 (hc1:W.heap[b1]? =some (.cells #[.int .i64 3,.int .i64 (LN:Int),.bool sh,.bool bk,.pointer (some ⟨B,0,none⟩)] 66 (0,0))) (hc2:BoxS W b2 3 s) (h0:J [] W):
 Calls Tryz.prog 178 #[.func (.yield l) #[] #[],.pointer (some ⟨b1,0,none⟩),.pointer (some ⟨b2,0,none⟩)] W (Ux.RngDone (keyL sh bk (elB E s) LN) J Jx):=by
 have hokE:=hE.1.1
 have HO:=Lib.hid fun W=>cok_ 3 (LN:Int) sh bk (some ⟨B,0,none⟩) W
 rw [ok3 LN hlv] at HO
 unfold cV at HO
 obtain ⟨x,hx,hxs⟩:=hc2
 obtain rfl:s=x:=by
  rcases hxs with h|⟨h,_⟩
  ·exact h.symm
  ·exact absurd h (by decide)
 have HEL:=Lib.hid fun W' (T:Ux.Touch (fun _=>False) W W')=>elements_ B mb E s W' (hE.touch0 T) (hT.touch T) (by omega)
 have hel:=elB_ok hokE s
 obtain ⟨el,hel'⟩: ∃el,elB E s=el:=⟨_,rfl⟩
 have hee:Ux.elemsE E (Ux.Sign.signs s.data.toList)=el:=hel'
 rw [hee] at HEL
 rw [hel'] at hR hel⊢
 have hkw:strmL sh bk el LN LN=keyL sh bk el LN:=Ux.strm_all sh bk el LN hlv.2
 obtain ⟨want,hw⟩: ∃want,keyL sh bk el LN=want:=⟨_,rfl⟩
 rw [hw] at hR hkw
 rw [hw]
 have HRN:=Lib.hid fun pre x W hp hJ=>rnd_at hR pre x W hp hJ
 have HCO:=Lib.hid fun (k:Nat) (hk:k=1∨k=2∨k=3) W' (v:Value) (hr:Row W' 0 56 v (ev el))=>cof_ 3 (LN:Int) sh bk (some ⟨B,0,none⟩) v el k hk W' hr (by omega) hel.2
 unfold cV at HCO
 have HR:=Lib.hid (And.intro hR.stays (And.intro hR.staysX (And.intro hC (And.intro h0 (And.intro hkw hlv)))))
 obtain ⟨LI,hLI⟩: ∃LI:Int,(LN:Int)=LI:=⟨_,rfl⟩
 rw [hLI] at HO HCO hc1
 have cells: ∀W':World,W'.heap[b1]? =some (.cells #[.int .i64 3,.int .i64 LI,.bool sh,.bool bk,.pointer (some ⟨B,0,none⟩)] 66 (0,0))→W'.cell? ⟨b1,0,none⟩=some (.int .i64 3)∧W'.cell? ⟨b1,1,none⟩=some (.int .i64 LI)∧W'.cell? ⟨b1,2,none⟩=some (.bool sh)∧W'.cell? ⟨b1,3,none⟩=some (.bool bk)∧W'.cell? ⟨b1,4,none⟩=some (.pointer (some ⟨B,0,none⟩)):=fun W' h=>by
  refine ⟨?_,?_,?_,?_,?_⟩
  ·rw [cell_of_row W' b1 0 _ _ (0,0) h];rfl
  ·rw [cell_of_row W' b1 1 _ _ (0,0) h];rfl
  ·rw [cell_of_row W' b1 2 _ _ (0,0) h];rfl
  ·rw [cell_of_row W' b1 3 _ _ (0,0) h];rfl
  ·rw [cell_of_row W' b1 4 _ _ (0,0) h];rfl
 have HCE:=Lib.hid cells
 have HX:=Lib.hid (And.intro hx (And.intro hc1 (And.intro hel.1 (And.intro hs hLI))))
 have l3:LI≤3:=by omega
 have l1:1≤LI:=by omega
 clear hR hC h0 hw hkw hx hxs hc1 hT cells hs hE hel hel' hee hokE hlv hLI
 obtain ⟨c0,c1,c2,c3,c4⟩:=HCE.out W HX.out.2.1
 go_enter Tryz.func178,Tryz.ntmps178
 go_wp2_with (go_at_call 73;fail)
 refine (HO.out _).mono ?_
 rintro e w2 ⟨rfl,T2⟩
 have H2:=Lib.hid T2
 clear T2 c0 c1 c2 c3 c4
 obtain ⟨c0,c1,c2,c3,c4⟩:=HCE.out w2 (H2.out.heap HX.out.2.1 (fun f=>f))
 have d0:w2.cell? ⟨b2,0,none⟩=some (.string s):=by rw [cell_of_row w2 b2 0 _ _ (0,0) (H2.out.heap HX.out.1 (fun f=>f))];rfl
 go_wp2_with (go_at_call 43;fail)
 refine (HEL.out w2 H2.out).mono ?_
 rintro e w3 ⟨u,rfl,hu,T3⟩
 have T03:=H2.out.trans T3 fun _ _ f=>f
 have hu':=hu.mono (show W.heap.size≤w2.heap.size from H2.out.size)
 obtain ⟨a5,c5,rfl,_⟩:=hu.is
 rw [Ux.ev_length] at hu'⊢
 obtain ⟨n5,hn5⟩: ∃n,el.length=n:=⟨_,rfl⟩
 rw [hn5] at hu'⊢
 have H3:=Lib.hid (And.intro hu' (And.intro (T03.heap HX.out.2.1 (fun f=>f)) (And.intro (HR.out.1 _ _ _ HR.out.2.2.2.1 (ItS.of0 T03)) (And.intro T03.size hn5))))
 clear c0 c1 c2 c3 c4 d0 hu hu' T3 T03 hn5
 go_wp2_with (fail)
 go_loopg [6] LN (fun gk s6 wr=> ∃k:Nat,s6= .int .i64 (k+1:Nat)∧k+gk=LN∧Hid (Row wr W.heap.size 56 (.slice a5 n5 c5) (ev el)∧wr.heap[b1]? =some (.cells #[.int .i64 3,.int .i64 LI,.bool sh,.bool bk,.pointer (some ⟨B,0,none⟩)] 66 (0,0))∧J (strmL sh bk el LN k) wr∧W.heap.size≤wr.heap.size))
 case atStart=>exact ⟨0,rfl,by omega,Lib.hid ⟨H3.out.1,H3.out.2.1,H3.out.2.2.1,H3.out.2.2.2.1⟩⟩
 case round=>
  obtain ⟨k,rfl,hkg,HI⟩:=hrel
  have p0:(0:Int)≤k:=by omega
  have pc:((k+1:Nat):Int)=(k:Int)+1:=by omega
  rw [pc]
  obtain ⟨c0,c1,c2,c3,c4⟩:=HCE.out wr HI.out.2.1
  by_cases hle:k<LN
  ·obtain ⟨g',rfl⟩: ∃g',gk=g'+1:=⟨gk-1,by omega⟩
   have p1:(k:Int)+1≤LI:=by have:=HX.out.2.2.2.2;omega
   have HK:Hid (k+1=1∨k+1=2∨k+1=3):=Lib.hid (by have:=HR.out.2.2.2.2.2;omega)
   have hco:=HCO.out (k+1) HK.out wr _ (HI.out.1.mono (Nat.zero_le _))
   rw [pc] at hco
   have HC1:=Lib.hid hco
   obtain ⟨M,hM⟩: ∃M,decide ((k:Int)+1<LI)=M:=⟨_,rfl⟩
   have hlw:lvlW sh bk el LN (k+1)=wts sh bk (k+1) el++if M=true then [0] else []:=by
    unfold lvlW
    rw [←hM]
    congr 1
    by_cases h:k+1<LN
    ·rw [if_pos h,if_pos (by have:=HX.out.2.2.2.2;rw [decide_eq_true_eq];omega)]
    ·rw [if_neg h,if_neg (by have:=HX.out.2.2.2.2;rw [decide_eq_true_eq];omega)]
   have HLW:=Lib.hid hlw
   clear hco hle hlw
   go_wp2_with (go_at_call 171;fail)
   refine HC1.out.mono ?_
   rintro e w5 ⟨u7,rfl,hu7,T5⟩
   have hu7':=hu7.mono (show W.heap.size≤wr.heap.size from HI.out.2.2.2)
   have H5:=Lib.hid (And.intro hu7' (And.intro T5 (And.intro (HI.out.1.touch0 T5) (And.intro (T5.heap HI.out.2.1 (fun f=>f)) (And.intro (HR.out.1 _ _ _ HI.out.2.2.1 (ItS.of0 T5)) (Nat.le_trans HI.out.2.2.2 T5.size))))))
   have HOWN:=Lib.hid (And.intro (fun b hb=>hu7.ge (b:=b) hb) T5)
   clear c0 c1 c2 c3 c4 hu7 hu7' T5
   obtain ⟨c0,c1,c2,c3,c4⟩:=HCE.out w5 H5.out.2.2.2.1
   obtain ⟨ra,wa,hrun,hRa,hTa⟩:=(H5.out.1.touch0 ((Ux.Touch.refl (fun _=>False) w5).alloc (.cells #[.int .i64 0] 3))).app 23 8 (.int .i64 0) Tryz.underlying23 infoI rfl (.slice (some ⟨w5.heap.size,0,none⟩) 1 1) 1 [.int .i64 0] (Ux.src_new Tryz.underlying23 w5 1 1 [.int .i64 0] rfl (by simp [Value.oneCell'])) rfl (by rw [World.size_alloc];have:=H5.out.2.2.2.2.2;omega) (by rw [Ux.iv_length,Ux.sv_length];have h1:=Ux.wts_len sh bk (k+1) el;have h2:=HX.out.2.2.1;have h3:=HX.out.2.2.2.1;simp only [maxLen];omega) (by rw [Ux.iv_length,Ux.sv_length];have h1:=Ux.wts_len sh bk (k+1) el;have h2:=HX.out.2.2.1;have h3:=HX.out.2.2.2.1;omega)
   have TA:Ux.Touch (fun b=>W.heap.size≤b∧u7.ownBlock=some b) w5 wa:=(((Ux.Touch.refl (fun b=>W.heap.size≤b∧u7.ownBlock=some b) w5).alloc _).trans hTa fun _ _ h=>h)
   have HRUN:=Lib.hid hrun
   have HA:=Lib.hid (And.intro hRa TA)
   obtain ⟨a7,c7,hu7,_⟩:=H5.out.1.is
   rw [Ux.iv_length,Ux.sv_length] at hu7
   obtain ⟨n7,hn7⟩: ∃n,(wts sh bk (k+1) el).length=n:=⟨_,rfl⟩
   rw [hn7] at hu7
   subst hu7
   clear hrun hRa hTa TA hn7
   go_upto_if 56 with (fail)
   go_cut [7] (fun s7' wx=>Hid (Row wx W.heap.size 3 s7' (iv (sv (lvlW sh bk el LN (k+1))))∧Ux.Touch (fun b=>W.heap.size≤b∧(Value.slice a7 n7 c7).ownBlock=some b) w5 wx))
   case first=>
    cases M with
    |false=>
     go_wp2_with (fail)
     go_meet
     refine Lib.hid ⟨?_,Ux.Touch.refl _ _⟩
     rw [HLW.out,if_neg (by simp),List.append_nil]
     exact H5.out.1
    |true=>
     go_wp2_with (at_builtin;refine Ux.wpList_app (v1:= .slice a7 n7 c7) (x1:= .slice (some ⟨_,0,none⟩) 1 1) rfl _ _ _ _ rfl rfl rfl (HRUN.out _) ?_)
     go_meet
     refine Lib.hid ⟨?_,HA.out.2⟩
     rw [HLW.out]
     first|rw [if_pos (c:=true=true) rfl]|rw [if_pos (c:=True) trivial]|skip
     rw [Ux.sv_append,show∀a b,iv (a++b)=iv a++iv b from fun a b=>List.map_append]
     exact HA.out.1
   obtain ⟨w8,hw8⟩: ∃W,wc=W:=⟨_,rfl⟩
   rw [hw8] at hcut⊢
   obtain ⟨ws,hws⟩: ∃ws,lvlW sh bk el LN (k+1)=ws:=⟨_,rfl⟩
   rw [hws] at hcut
   obtain ⟨P,hP⟩: ∃P,strmL sh bk el LN k=P:=⟨_,rfl⟩
   have hkn:strmL sh bk el LN (k+1)=P++ws.flatMap (encW (k+1)):=by rw [←hP,←hws];rfl
   have hpre:P++ws.flatMap (encW (k+1))<+:want:=by
    rw [←hkn,←HR.out.2.2.2.2.1]
    exact Ux.strm_prefix sh bk el LN (k+1) LN (by have:=HX.out.2.2.2.2;omega)
   have hwb: ∀x∈ws,True:=fun _ _=>trivial
   obtain ⟨a8,c8,he8,_⟩:=hcut.out.1.is
   rw [Ux.iv_length,Ux.sv_length] at he8
   obtain ⟨n8,hn8⟩: ∃n,ws.length=n:=⟨_,rfl⟩
   rw [hn8] at he8
   have hapart: ∀g cs t fz,w5.heap[g]? =some (.cells cs t fz)→t≠3→¬(W.heap.size≤g∧(Value.slice a7 n7 c7).ownBlock=some g):=fun g cs t fz hg ht h=>by
    obtain ⟨cs',hk⟩:=H5.out.1.kind h.2
    rw [hg] at hk
    cases hk
    exact ht rfl
   have T8:=hcut.out.2
   have hb18:=T8.heap H5.out.2.2.2.1 (hapart _ _ _ _ H5.out.2.2.2.1 (by decide))
   have hrow8:=H5.out.2.2.1.touch T8 fun b hb1 hb2=>by
    obtain ⟨cs',hk⟩:=H5.out.2.2.1.kind hb2
    exact hapart _ _ _ _ hk (by decide)
   have hJ8:J P w8:=by
    have h1:=HR.out.1 _ _ w8 HI.out.2.2.1 (ItS.of0 (HOWN.out.2.trans (R:=fun _=>False) T8 fun b hb h=>by have:=HOWN.out.1 b h.2;omega))
    rwa [hP] at h1
   have H8:=Lib.hid (And.intro hrow8 (And.intro hb18 (And.intro hcut.out.1 (And.intro hJ8 (Nat.le_trans H5.out.2.2.2.2.2 T8.size)))))
   subst he8
   have HPR:=Lib.hid (And.intro hpre (And.intro hkn hn8))
   have hn8b:n8≤100000000:=by
    have h1:=Ux.lvlW_len sh bk el LN (k+1)
    have h2:=HX.out.2.2.1
    have h3:=HX.out.2.2.2.1
    rw [hws] at h1
    omega
   have n80:(n8:Int)≤100000000:=by omega
   clear hcut hw8 hws hP hkn hpre hwb hn8 hapart T8 hb18 hrow8 hJ8 HRUN HA c0 c1 c2 c3 c4 hn8b
   obtain ⟨BB,hBB⟩: ∃BB,((k:Int)+1==1)=BB:=⟨_,rfl⟩
   have hec: ∀x:Nat,encW (k+1) x=(if BB=true then [UInt8.ofNat (x/256)] else [])++ [UInt8.ofNat x]:=by
    intro x
    rw [←hBB]
    rcases HK.out with h|h|h
    ·obtain rfl:k=0:=by omega
     rfl
    ·obtain rfl:k=1:=by omega
     rfl
    ·obtain rfl:k=2:=by omega
     rfl
   have HEC:=Lib.hid hec
   clear hec
   go_wp2_with (fail)
   go_loopg [62] n8 (fun gj s62 wx=> ∃i:Nat,s62= .int .i64 i∧i+gj=n8∧Hid (Row wx W.heap.size 56 (.slice a5 n5 c5) (ev el)∧wx.heap[b1]? =some (.cells #[.int .i64 3,.int .i64 LI,.bool sh,.bool bk,.pointer (some ⟨B,0,none⟩)] 66 (0,0))∧Row wx W.heap.size 3 (.slice a8 n8 c8) (iv (sv ws))∧J (P++(ws.take i).flatMap (encW (k+1))) wx∧W.heap.size≤wx.heap.size))
   case atStart=>exact ⟨0,rfl,by omega,Lib.hid ⟨H8.out.1,H8.out.2.1,H8.out.2.2.1,by rw [List.take_zero,List.flatMap_nil,List.append_nil];exact H8.out.2.2.2.1,H8.out.2.2.2.2⟩⟩
   case round=>
    obtain ⟨i,rfl,hig,HJ⟩:=hrel
    have i0:(0:Int)≤i:=by omega
    by_cases hlt:i<n8
    ·obtain ⟨j',rfl⟩: ∃j',gk=j'+1:=⟨gk-1,by omega⟩
     have i1:(i:Int)<n8:=by omega
     obtain ⟨x,hx⟩: ∃x,ws[i]? =some x:=⟨_,List.getElem?_eq_getElem (by have:=HPR.out.2.2;omega)⟩
     obtain ⟨gv,rfl,_,hcv⟩:=HJ.out.2.2.1.at (Ux.iv_get (Ux.sv_get hx))
     obtain ⟨Y,hY⟩: ∃Y,P++(ws.take i).flatMap (encW (k+1))=Y:=⟨_,rfl⟩
     have hY2:P++(ws.take (i+1)).flatMap (encW (k+1))=Y++encW (k+1) x:=by rw [Ux.flat_take hx,←List.append_assoc,hY]
     have hYp:Y++encW (k+1) x<+:want:=by
      rw [←hY2]
      refine List.IsPrefix.trans ?_ HPR.out.1
      refine (List.prefix_append_right_inj P).2 ?_
      conv=>rhs;rw [←List.take_append_drop (i+1) ws]
      rw [List.flatMap_append]
      exact List.prefix_append _ _
     rw [hY] at HJ
     rw [HEC.out x] at hYp hY2
     have HX2:=Lib.hid (And.intro hY2 hYp)
     have keepT: ∀w6,Ux.Touch (C wr) wr w6→Row w6 W.heap.size 56 (.slice a5 n5 c5) (ev el)∧w6.heap[b1]? =some (.cells #[.int .i64 3,.int .i64 LI,.bool sh,.bool bk,.pointer (some ⟨B,0,none⟩)] 66 (0,0))∧Row w6 W.heap.size 3 (.slice (some ⟨gv,0,none⟩) n8 c8) (iv (sv ws))∧W.heap.size≤w6.heap.size:=fun w6 T6=>by
      refine ⟨HJ.out.1.touch T6 fun b hb1 hb2=> ?_,T6.heap HJ.out.2.1 (HR.out.2.2.1.not HJ.out.2.1 (by decide) (.inl rfl)),HJ.out.2.2.1.touch T6 fun b hb1 hb2=> ?_,Nat.le_trans HJ.out.2.2.2.2 T6.size⟩
      ·obtain ⟨cs,hk⟩:=HJ.out.1.kind hb2
       exact HR.out.2.2.1.not hk (by decide) (.inr (.inr hb1))
      ·obtain ⟨cs,hk⟩:=HJ.out.2.2.1.kind hb2
       exact HR.out.2.2.1.not hk (by decide) (.inr (.inr hb1))
     have HKT:=Lib.hid keepT
     have hlow:((UInt8.ofNat x).toNat:Int)=(x:Int) % 256:=by rw [UInt8.toNat_ofNat'];omega
     have HLOW:=Lib.hid hlow
     clear hx hY hY2 hlt keepT hlow
     cases BB with
     |false=>
      rw [if_neg (by simp),List.nil_append] at hYp
      obtain ⟨fn,tmps,assign,bd,hyd,hRI⟩:=HRN.out Y (UInt8.ofNat x) wr hYp HJ.out.2.2.2.1
      rw [HLOW.out] at hyd
      have HRI:=Lib.hid hRI
      clear hRI hYp
      go_upto_region 18 with (fail)
      refine (wpIn_wide (n:=6)).1 ?_
      gi_wp2_with (fail)
      refine ⟨fun f h=>(by cases h),?_⟩
      gi_wp2_with (fail)
      refine HRI.out.mono ?_
      rintro e w6 hres
      rcases hres with ⟨rfl,J6,T6⟩|⟨rfl,JX6⟩
      ·have H6:=Lib.hid (And.intro (HKT.out w6 T6) J6)
       clear J6 T6 hyd hcv
       gi_wp2_with (fail)
       go_wp2_with (fail)
       go_roundg j'
       case measure=>omega
       case rel=>
        refine ⟨i+1,rfl,by omega,Lib.hid ⟨H6.out.1.1,H6.out.1.2.1,H6.out.1.2.2.1,?_,H6.out.1.2.2.2⟩⟩
        rw [HX2.out.1,if_neg (by simp),List.nil_append]
        exact H6.out.2
      ·have HXX:=Lib.hid JX6
       clear hyd hcv JX6
       gi_wp2_with (fail)
       go_wp2_with (fail)
       go_returns
       exact ⟨⟨_,rfl⟩,.inr HXX.out⟩
     |true=>
      rw [if_pos rfl] at hYp
      have hYp1:Y++ [UInt8.ofNat (x/256)]<+:want:=List.IsPrefix.trans (by rw [←List.append_assoc];exact List.prefix_append _ _) hYp
      obtain ⟨fn,tmps,assign,bd,hyd,hRI⟩:=HRN.out Y (UInt8.ofNat (x/256)) wr hYp1 HJ.out.2.2.2.1
      have hhi:((UInt8.ofNat (x/256)).toNat:Int)=(x:Int)/256 % 256:=by rw [UInt8.toNat_ofNat'];omega
      rw [hhi] at hyd
      have HRI:=Lib.hid hRI
      have HYP:=Lib.hid hYp
      clear hRI hYp hYp1 hhi
      go_upto_region 18 with (fail)
      refine (wpIn_wide (n:=6)).1 ?_
      gi_wp2_with (fail)
      refine HRI.out.mono ?_
      rintro e w6 hres
      rcases hres with ⟨rfl,J6,T6⟩|⟨rfl,JX6⟩
      ·have H6:=Lib.hid (HKT.out w6 T6)
       clear hyd hcv T6
       have hyp2:(Y++ [UInt8.ofNat (x/256)])++ [UInt8.ofNat x]<+:want:=by rw [List.append_assoc];exact HYP.out
       obtain ⟨fn2,tmps2,assign2,bd2,hyd2,hRI2⟩:=HRN.out _ (UInt8.ofNat x) w6 hyp2 J6
       rw [HLOW.out] at hyd2
       have HRI2:=Lib.hid hRI2
       clear hRI2 hyp2 J6
       gi_wp2_with (fail)
       refine HRI2.out.mono ?_
       rintro e w7 hres2
       rcases hres2 with ⟨rfl,J7,T7⟩|⟨rfl,JX7⟩
       ·have k7:Row w7 W.heap.size 56 (.slice a5 n5 c5) (ev el)∧w7.heap[b1]? =some (.cells #[.int .i64 3,.int .i64 LI,.bool sh,.bool bk,.pointer (some ⟨B,0,none⟩)] 66 (0,0))∧Row w7 W.heap.size 3 (.slice (some ⟨gv,0,none⟩) n8 c8) (iv (sv ws))∧W.heap.size≤w7.heap.size:=by
         refine ⟨H6.out.1.touch T7 fun b hb1 hb2=> ?_,T7.heap H6.out.2.1 (HR.out.2.2.1.not H6.out.2.1 (by decide) (.inl rfl)),H6.out.2.2.1.touch T7 fun b hb1 hb2=> ?_,Nat.le_trans H6.out.2.2.2 T7.size⟩
         ·obtain ⟨cs,hk⟩:=H6.out.1.kind hb2
          exact HR.out.2.2.1.not hk (by decide) (.inr (.inr hb1))
         ·obtain ⟨cs,hk⟩:=H6.out.2.2.1.kind hb2
          exact HR.out.2.2.1.not hk (by decide) (.inr (.inr hb1))
        have H7:=Lib.hid (And.intro k7 J7)
        clear J7 T7 hyd2 k7
        gi_wp2_with (fail)
        go_wp2_with (fail)
        go_roundg j'
        case measure=>omega
        case rel=>
         refine ⟨i+1,rfl,by omega,Lib.hid ⟨H7.out.1.1,H7.out.1.2.1,H7.out.1.2.2.1,?_,H7.out.1.2.2.2⟩⟩
         rw [HX2.out.1,if_pos trivial,←List.append_assoc]
         exact H7.out.2
       ·have HXX:=Lib.hid JX7
        clear hyd2 JX7
        gi_wp2_with (fail)
        go_wp2_with (fail)
        go_returns
        exact ⟨⟨_,rfl⟩,.inr HXX.out⟩
      ·have HXX:=Lib.hid JX6
       clear hyd hcv JX6
       gi_wp2_with (fail)
       refine ⟨fun f h=>(by cases h),?_⟩
       gi_wp2_with (fail)
       go_wp2_with (fail)
       go_returns
       exact ⟨⟨_,rfl⟩,.inr HXX.out⟩
    ·obtain rfl:i=n8:=by omega
     have q1: ¬(i:Int)<i:=by omega
     clear hlt
     go_wp2_with (fail)
     go_roundg g'
     case measure=>omega
     case rel=>
      refine ⟨k+1,by congr 1,by omega,Lib.hid ⟨HJ.out.1,HJ.out.2.1,?_,HJ.out.2.2.2.2⟩⟩
      have h:=HJ.out.2.2.2.1
      rw [List.take_of_length_le (by have:=HPR.out.2.2;omega),←HPR.out.2.1] at h
      exact h
  ·obtain rfl:k=LN:=by have:=HR.out.2.2.2.2.2;omega
   have p1: ¬(k:Int)+1≤LI:=by have:=HX.out.2.2.2.2;omega
   clear hle
   go_wp2_with (fail)
   go_returns
   refine ⟨⟨_,rfl⟩,.inl ?_⟩
   have h:=HI.out.2.2.1
   rwa [HR.out.2.2.2.2.1] at h
end Go.Proofs.YtfccjaboicpohaaGreatDoor
namespace Go.Proofs.YtfccjaboicpohaaGreatDoor
open Go.RowKit
open Ux (Row iv sv bv ev Ent keyL Grow)
attribute [local go_sem] Oper.semAt_some
def keyP (kd lv:Int) (sh bk:Bool) (tb:Option Addr) (E:List Ent) (s:ByteArray):ByteArray:=
 if okC kd lv tb=true then (if kd=3 then ⟨(keyL sh bk (elB E s) lv.toNat).toArray⟩ else if kd=2 then ftB s else s) else s
structure StrAt (W:World) (b1 b2:Nat) (kd lv:Int) (sh bk:Bool) (tb:Option Addr) (s:ByteArray):Prop where
 c:W.heap[b1]? =some (.cells #[.int .i64 kd,.int .i64 lv,.bool sh,.bool bk,.pointer tb] 66 (0,0))
 b:BoxS W b2 kd s
def strV (b1 b2:Nat):Value:= .func (.func 178) #[] #[.pointer (some ⟨b1,0,none⟩),.pointer (some ⟨b2,0,none⟩)]
theorem iter_ (l:Nat) (kd lv:Int) (sh bk:Bool) (tb:Option Addr) (E:List Ent) (s:ByteArray) (hs:s.size≤1000000) (C:World→Nat→Prop) (J Jx:List UInt8→World→Prop) (W:World) (b1 b2:Nat) (hT:Tabs W) (hE:CTab W kd tb E)
 (hR:Ux.RoundsR Tryz.prog encB l (keyP kd lv sh bk tb E s).data.toList C (ItS b2 kd s) J Jx) (hC:CrS W.heap.size b1 b2 C) (h:StrAt W b1 b2 kd lv sh bk tb s) (h0:J [] W):
 Calls Tryz.prog 178 #[.func (.yield l) #[] #[],.pointer (some ⟨b1,0,none⟩),.pointer (some ⟨b2,0,none⟩)] W (Ux.RngDone (keyP kd lv sh bk tb E s).data.toList J Jx):=by
 by_cases h3:okC kd lv tb=true∧kd=3
 ·obtain ⟨hok,rfl⟩:=h3
  have hok':=hok
  unfold okC at hok'
  simp at hok'
  obtain ⟨h1,h2⟩:=hok'
  cases tb with
  |none=>cases h1
  |some p=>
   obtain ⟨B,mb,rfl,hTA⟩:=hE rfl p rfl
   obtain ⟨n,hn⟩: ∃n:Nat,lv=n:=⟨lv.toNat,by omega⟩
   subst hn
   have hk:(keyP 3 n sh bk (some ⟨B,0,none⟩) E s).data.toList=keyL sh bk (elB E s) n:=by
    unfold keyP
    rw [if_pos hok,if_pos rfl,Int.toNat_natCast]
   rw [hk] at hR⊢
   exact iterT_ l n (by omega) sh bk B mb E s hs C J Jx W b1 b2 hT hTA hR hC h.c h.b h0
 ·have hk:keyP kd lv sh bk tb E s=if kd=2 then ftB s else s:=by
   unfold keyP
   by_cases hok:okC kd lv tb=true
   ·rw [if_pos hok,if_neg (fun e=>h3 ⟨hok,e⟩)]
   ·rw [if_neg hok,if_neg (fun e=>hok (by subst e;rfl))]
  have hcase:okC kd lv tb=false∨kd=1∨kd=2:=by
   cases hok:okC kd lv tb with
   |false=>exact .inl rfl
   |true=>
    have h4:kd≠3:=fun e=>h3 ⟨hok,e⟩
    unfold okC at hok
    simp [h4] at hok
    exact .inr hok
  exact iterA_ l kd lv sh bk tb hcase s _ hk hs C J Jx W b1 b2 hT hR hC h.c h.b h0
set_option maxHeartbeats 4000000 in
theorem stream_ (kd lv:Int) (sh bk:Bool) (tb:Option Addr) (s:ByteArray) (w:World):Calls Tryz.prog 134 #[cV kd lv sh bk tb,.string s] w fun e w'=>
 e= .returned (strV w.heap.size (w.heap.size+1))∧w'=(w.alloc (.cells #[.int .i64 kd,.int .i64 lv,.bool sh,.bool bk,.pointer tb] 66)).alloc (.cells #[.string s] 9):=by
 unfold cV strV
 go_enter Tryz.func134,Tryz.ntmps134
 go_wp2
 go_returns
 exact ⟨rfl,rfl⟩
theorem StrAt.made (kd lv:Int) (sh bk:Bool) (tb:Option Addr) (s:ByteArray) (w:World):StrAt ((w.alloc (.cells #[.int .i64 kd,.int .i64 lv,.bool sh,.bool bk,.pointer tb] 66)).alloc (.cells #[.string s] 9)) w.heap.size (w.heap.size+1) kd lv sh bk tb s:=by
 refine ⟨((Ux.Touch.refl (fun _=>False) _).alloc _).heap (heap_alloc_new w _) (fun f=>f),s,?_,.inl rfl⟩
 have:=heap_alloc_new (w.alloc (.cells #[.int .i64 kd,.int .i64 lv,.bool sh,.bool bk,.pointer tb] 66)) (.cells #[.string s] 9)
 rwa [World.size_alloc] at this
theorem calls_marks {f:FuncId} {fn:Func} {c:Code} {args:Array Value} {w:World} {R:Ending→World→Prop} (hf:Tryz.prog.funcs[f]? =some fn) (hb:fn.body=some c)
 (h:c.wp Tryz.prog (bodyPostM Fence.wide 6 Tryz.prog fn R) { tmps:=args++Array.replicate (fn.ntmps-args.size) undef,defers:= [] } w):Calls Tryz.prog f args w R:=
 (callsIn_wide (n:=6)).1 (callsIn_of_wp_marks hf hb trivial (wpIn_wide.2 h) rfl)
def CCB (bt:Nat) (W:World) (b:Nat):Prop:=(b=bt∧∃cs fz,W.heap[b]? =some (.cells cs 160 fz))∨∃cs fz,W.heap[b]? =some (.cells cs 5 fz)
theorem CCB.cells {bt:Nat} (W:World) (b:Nat) (h:CCB bt W b): ∃cs t fz,W.heap[b]? =some (.cells cs t fz):=by
 rcases h with ⟨_,cs,fz,h⟩|⟨cs,fz,h⟩
 ·exact ⟨cs,_,fz,h⟩
 ·exact ⟨cs,_,fz,h⟩
theorem CCB.mono {bt:Nat} (W W':World) (b:Nat) (e:W.heap[b]? =W'.heap[b]?) (h:CCB bt W b):CCB bt W' b:=by
 unfold CCB at h⊢
 rw [←e]
 exact h
def KeyI (bt b2 S:Nat) (kd:Int) (s:ByteArray) (w4:World) (pre:List UInt8) (W:World):Prop:=
 ∃v,W.heap[bt]? =some (.cells #[v] 160 (0,0))∧Grow W S 5 v (bv pre)∧BoxS W b2 kd s∧Ux.Touch (fun b=>b=bt∨b=b2) w4 W
theorem KeyI.touchL {bt b2 S:Nat} {kd:Int} {s:ByteArray} {w4:World} {pre:List UInt8} {W W':World} {l:Nat} (h:KeyI bt b2 S kd s w4 pre W) (T:Ux.Touch (fun b=>b=l) W W') (h1:l≠bt) (h2:l≠b2) (h3:l<S) (h4:w4.heap.size≤l):KeyI bt b2 S kd s w4 pre W':=by
 obtain ⟨v,a1,a2,⟨x,a3,a4⟩,a5⟩:=h
 exact ⟨v,T.heap a1 (fun e=>h1 e.symm),a2.touch T (fun b hb e=>by omega),⟨x,T.heap a3 (fun e=>h2 e.symm),a4⟩,a5.trans T (fun b hb e=>by omega)⟩
theorem KeyI.touchB {bt b2 S:Nat} {kd:Int} {s:ByteArray} {w4:World} {pre:List UInt8} {W W':World} (h:KeyI bt b2 S kd s w4 pre W) (T:ItS b2 kd s W W') (h1:b2≠bt) (h3:b2<S):KeyI bt b2 S kd s w4 pre W':=by
 obtain ⟨v,a1,a2,a3,a5⟩:=h
 exact ⟨v,T.1.heap a1 (fun e=>h1 e.symm),a2.touch T.1 (fun b hb e=>by omega),T.2 a3,a5.trans T.1 (fun b hb e=> .inr e)⟩
theorem KeyI.app {bt b2 S:Nat} {kd:Int} {s:ByteArray} {w4:World} {pre:List UInt8} {W:World} (h:KeyI bt b2 S kd s w4 pre W) (hS:S≤W.heap.size) (hbt:bt<S) (hb2:b2<S) (hne:b2≠bt) (x:UInt8) (hlen:pre.length≤1000000000) (h4:w4.heap.size≤S):
 ∃a c a' c' w2,W.cell? ⟨bt,0,none⟩=some (.slice a pre.length c)∧W.frozen? ⟨bt,0,none⟩=false∧(∀ty,(Builtin.append_ #[160,160] ty #[.slice a pre.length c,.slice (some ⟨W.heap.size,0,none⟩) 1 1]).run Tryz.prog (W.alloc (.cells #[.int .u8 (x.toNat:Int)] 5))= .ok (.slice a' (pre.length+1:Nat) c') w2)∧
  w2.cell? ⟨bt,0,none⟩=some (.slice a pre.length c)∧w2.frozen? ⟨bt,0,none⟩=false∧Ux.Touch (CCB bt W) W (w2.setCell ⟨bt,0,none⟩ (.slice a' (pre.length+1:Nat) c'))∧KeyI bt b2 S kd s w4 (pre++ [x]) (w2.setCell ⟨bt,0,none⟩ (.slice a' (pre.length+1:Nat) c')):=by
 obtain ⟨v,a1,a2,⟨y,a3,a4⟩,a5⟩:=h
 obtain ⟨r,w2,run2,hG2,t2⟩:=appB a2 1 [.int .u8 (x.toNat:Int)] rfl (by simp [Value.oneCell']) hS (by rw [Ux.bv_length];omega)
 have hv:=a2.row.is
 obtain ⟨a,c,rfl,_⟩:=hv
 have hG2':Grow w2 S 5 r (bv (pre++ [x])):=by rw [Ux.bv_append];exact hG2
 obtain ⟨a',c',rfl,_⟩:=hG2'.row.is
 have e1:(bv pre).length=pre.length:=Ux.bv_length _
 have e2:(bv (pre++ [x])).length=pre.length+1:=by rw [Ux.bv_length];simp
 rw [e1] at a1 a2 run2 t2
 rw [e2] at run2 hG2'
 have hnb: ¬(S≤bt∧(Value.slice a pre.length c).ownBlock=some bt):=fun h=>by omega
 have b1:=t2.heap a1 hnb
 have T5:Ux.Touch (CCB bt W) W (w2.setCell ⟨bt,0,none⟩ (.slice a' (pre.length+1:Nat) c')):=by
  have T3:Ux.Touch (CCB bt W) W w2:=t2.mono fun b _ hb=>by
   obtain ⟨cs,fz,hc⟩:=Go.Lib.ownsRow_kind a2.1 b hb.2
   exact .inr ⟨cs,fz,hc⟩
  exact T3.setCell (p:=⟨bt,0,none⟩) (fun _=> .inl ⟨rfl,_,_,a1⟩) _
 refine ⟨a,c,a',c',w2,?_,frozen_of_row W bt 0 _ _ a1,run2,?_,frozen_of_row w2 bt 0 _ _ b1,T5,?_⟩
 ·rw [cell_of_row W bt 0 _ _ (0,0) a1];rfl
 ·rw [cell_of_row w2 bt 0 _ _ (0,0) b1];rfl
 ·refine ⟨_,heap_setCell_same w2 bt 0 _ _ _ b1,hG2'.touch ((Ux.Touch.refl (fun b=>b=bt) w2).setCell (p:=⟨bt,0,none⟩) (fun _=>rfl) _) (fun b hb e=>by omega),⟨y,?_,a4⟩,?_⟩
  ·refine T5.heap a3 fun h=> ?_
   rcases h with ⟨h,_⟩|⟨cs,fz,h⟩
   ·exact hne h
   ·rw [a3] at h;cases h
  ·refine a5.trans ((t2.mono (fun b _ h=> .inl h):Ux.Touch (fun b=>(S≤b∧(Value.slice a pre.length c).ownBlock=some b)∨b=bt) W w2).setCell (p:=⟨bt,0,none⟩) (fun _=> .inr rfl) _) ?_
   intro b hb h
   rcases h with h|h
   ·omega
   ·exact .inl h
set_option maxHeartbeats 8000000 in
set_option maxRecDepth 100000 in
theorem skey_ (kd lv:Int) (sh bk:Bool) (tb:Option Addr) (E:List Ent) (s:ByteArray) (w:World) (hs:s.size≤1000000) (hT:Tabs w) (hE:CTab w kd tb E) (hkl:(keyP kd lv sh bk tb E s).size≤1000000000):
 Calls Tryz.prog 86 #[cV kd lv sh bk tb,.string s] w fun e w'=>e= .returned (.string (keyP kd lv sh bk tb E s))∧Ux.Touch (fun _=>False) w w':=by
 have c31:=Lib.hid (stream_ kd lv sh bk tb s)
 obtain ⟨want,hw⟩: ∃want,(keyP kd lv sh bk tb E s).data.toList=want:=⟨_,rfl⟩
 have hwl:want.length≤1000000000:=by rw [←hw];exact hkl
 have HS:=Lib.hid (And.intro hs (And.intro hT (And.intro hE (And.intro hw hwl))))
 clear hs hT hE hkl hwl
 unfold cV
 unfold cV at c31
 refine calls_marks Tryz.func86 rfl ?_
 simp only [Tryz.ntmps86,List.size_toArray,List.length_cons,List.length_nil,Nat.reduceAdd,Nat.reduceSub,Array.replicate_succ,Array.replicate_zero,List.push_toArray,List.append_toArray,List.nil_append,List.cons_append]
 go_wp2_with (go_at_call 134;fail)
 refine (c31.out _).mono ?_
 rintro e w4 ⟨rfl,hw4⟩
 rw [show ((w.alloc (.cells #[.int .i64 kd,.int .i64 lv,.bool sh,.bool bk,.pointer tb] 66)).alloc (.cells #[.slice none 0 0] 160)).heap.size=w.heap.size+2 by simp]
 obtain ⟨B,hB⟩: ∃B,w.heap.size=B:=⟨_,rfl⟩
 have hs4:w4.heap.size=B+4:=by rw [hw4,←hB];simp
 have T4:Ux.Touch (fun _=>False) w w4:=by rw [hw4];exact ((((Ux.Touch.refl _ w).alloc _).alloc _).alloc _).alloc _
 have ht4:w4.heap[B+1]? =some (.cells #[.slice none 0 0] 160 (0,0)):=by
  rw [hw4,←hB]
  have:=heap_alloc_new (w.alloc (.cells #[.int .i64 kd,.int .i64 lv,.bool sh,.bool bk,.pointer tb] 66)) (.cells #[.slice none 0 0] 160)
  rw [World.size_alloc] at this
  exact (((Ux.Touch.refl (fun _=>False) _).alloc _).alloc _).heap this (fun f=>f)
 have hst:StrAt w4 (B+2) (B+3) kd lv sh bk tb s:=by
  have h:=StrAt.made kd lv sh bk tb s ((w.alloc (.cells #[.int .i64 kd,.int .i64 lv,.bool sh,.bool bk,.pointer tb] 66)).alloc (.cells #[.slice none 0 0] 160))
  rw [←hw4] at h
  simp only [World.size_alloc,hB] at h
  exact h
 rw [hB]
 have H4:=Lib.hid (And.intro hs4 (And.intro T4 (And.intro ht4 (And.intro hst hB))))
 clear hs4 T4 ht4 hst hw4 hB
 unfold strV
 go_wp2_with (fail)
 refine' Ux.wp_rangeR (gf:=178) (enc:=encB) (want:=want) rfl Tryz.func178 rfl rfl (fun _=>rfl) (CCB (B+1)) (fun b=>b=B+3) (ItS (B+3) kd s) (fun _ _ h=>h.1) CCB.cells CCB.mono ?it ?hit (KeyI (B+1) (B+3) (w4.heap.size+2) kd s w4) (fun _ _ _=>False) ?hI ?hIx ?hI2 ?hIx2 ?h0 _ ?assign ?body ?done ?stop
 case it=>intro b hb;have:=H4.out.1;omega
 case hit=>
  intro l C W1 J Jx hl hC hs1 T1 hR hJ
  have h:=iter_ l kd lv sh bk tb E s HS.out.1 C J Jx W1 (B+2) (B+3) (HS.out.2.1.touch (H4.out.2.1.trans T1 fun _ _ f=>f)) (HS.out.2.2.1.touch (H4.out.2.1.trans T1 fun _ _ f=>f)) (by rw [HS.out.2.2.2.1];exact hR) ?_ ⟨T1.heap H4.out.2.2.2.1.c (fun f=>f),let ⟨x,h1,h2⟩:=H4.out.2.2.2.1.b;⟨x,T1.heap h1 (fun f=>f),h2⟩⟩ hJ
  ·rw [HS.out.2.2.2.1] at h
   exact h
  ·intro W b hb
   have hs4:=H4.out.1
   rcases hC W b hb with h|h
   ·rcases h with ⟨h,_⟩|h
    ·exact .inl ⟨by omega,by omega,by omega⟩
    ·exact .inr h
   ·exact .inl ⟨by omega,by omega,by omega⟩
 case hI=>exact fun pre W W' h T=>h.touchL T (by have:=H4.out.1;omega) (by have:=H4.out.1;omega) (by omega) (by omega)
 case hIx=>exact fun _ _ _ _ h _=>h
 case hI2=>exact fun pre W W' h T=>h.touchB T (by omega) (by have:=H4.out.1;omega)
 case hIx2=>exact fun _ _ _ _ h _=>h
 case h0=>exact ⟨.slice none 0 0,H4.out.2.2.1,Grow.nil _ _ _,H4.out.2.2.2.1.b,Ux.Touch.refl _ _⟩
 case assign=>
  intro l' x W K hK
  unfold encB
  gi_wp2
  exact hK
 case stop=>exact fun _ _ _ _ _ h _ _=>h.elim
 case body=>
  intro l' j x W hx hI hW2
  have hjl:j<want.length:=(List.getElem?_eq_some_iff.1 hx).1
  have hlen:(want.take j).length=j:=by rw [List.length_take];omega
  have htk:want.take (j+1)=want.take j++ [x]:=by rw [List.take_add_one,hx];rfl
  obtain ⟨a,c,a',c',w2,k1,k2,krun,k3,k4,k5,k6⟩:=hI.app hW2 (by have:=H4.out.1;omega) (by have:=H4.out.1;omega) (by omega) x (by rw [hlen];have:=HS.out.2.2.2.2;omega) (by omega)
  rw [htk]
  rw [hlen] at k1 krun k3 k5 k6
  have R2:=Lib.hid krun
  have HF:=Lib.hid (And.intro k5 k6)
  clear krun k5 k6 hx hI hlen htk hjl
  gi_wp2_with (gi_at_builtin;refine Ux.wpListIn_app (v1:= .slice a j c) (x1:= .slice (some ⟨W.heap.size,0,none⟩) 1 1) rfl _ _ _ _ rfl rfl rfl (R2.out _) ?_)
  exact HF.out
 case done=>
  intro D W hI hD hDs
  obtain ⟨v,a1,a2,a3,a5⟩:=hI
  have cb:W.cell? ⟨B+1,0,none⟩=some v:=by rw [cell_of_row W (B+1) 0 _ _ (0,0) a1];rfl
  have hcv:=convB a2.row
  have HI:=Lib.hid (And.intro a5 (And.intro hD hDs))
  clear a1 a2 a3 a5 hD hDs
  go_wp2
  refine ⟨by simp,.inl ⟨_,_,rfl,run_takeDeferred HI.out.2.1,?_⟩⟩
  refine ⟨_,results_tmp rfl _ _ _,?_,?_⟩
  ·have h:=HS.out.2.2.2.1
   rw [←h]
   rfl
  ·have h4s:=H4.out.1
   have T5:Ux.Touch (fun _=>False) w W:=(H4.out.2.1.trans HI.out.1 (fun b hb h=>by have:=H4.out.2.2.2.2;omega))
   exact (T5.mono (fun _ _ f=>f.elim):Ux.Touch (fun b=>w.heap.size≤b) w W)|>fun T=>(Ux.touch_putObj T D (by have:=HI.out.2.2;have:=H4.out.2.2.2.2;omega) _).mono (fun b hb h=>by omega)
end Go.Proofs.YtfccjaboicpohaaGreatDoor
