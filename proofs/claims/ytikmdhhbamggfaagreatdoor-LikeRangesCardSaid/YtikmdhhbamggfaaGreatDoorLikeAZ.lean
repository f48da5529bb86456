/- A part of the proof that the statement holds for every input that it names. No other condition. -/
import Derived.Test.YtikmdhhbamggfaaGreatDoorUxLikAZ
import Derived.Test.YtikmdhhbamggfaaGreatDoorSignAZ
set_option linter.unusedVariables false
set_option linter.unusedSimpArgs false
namespace Go.Proofs.YtikmdhhbamggfaaGreatDoor
open Go.RowKit
open Ux (Row iv sv bv)
open Ux.Sign (foldI)
def collV (k:Int):Value:= .agg #[.int .i64 k,.int .i64 0,.bool false,.bool false,.pointer none]
def eqvK (k:Int) (a b:Int):Bool:=if k=2 then foldI a==foldI b else a==b
set_option maxHeartbeats 1000000 in
theorem collOk_ (k:Int) (hk:k=1∨k=2) (w:World):Calls Tryz.prog 19 #[collV k] w fun e w'=>e= .returned (.bool true)∧Ux.Touch (fun _=>False) w w':=by
 unfold collV
 rcases hk with rfl|rfl
 ·go_enter Tryz.func19,Tryz.ntmps19
  go_wp2
  go_ret
  exact ⟨rfl,(Ux.Touch.refl _ w).alloc _⟩
 ·go_enter Tryz.func19,Tryz.ntmps19
  go_wp2
  go_ret
  exact ⟨rfl,(Ux.Touch.refl _ w).alloc _⟩
set_option maxHeartbeats 4000000 in
set_option maxRecDepth 100000 in
theorem alike_ (k:Int) (hk:k=1∨k=2) (a b:Int) (ha: -9000000000<a∧a<9000000000) (hb: -9000000000<b∧b<9000000000) (w:World):
 Calls Tryz.prog 78 #[collV k,.int .i64 a,.int .i64 b] w fun e w'=>e= .returned (.bool (eqvK k a b))∧Ux.Touch (fun _=>False) w w':=by
 have CO:=Lib.hid (collOk_ k hk)
 have CA:=Lib.hid fun w'=>fold_ a w' ha.1 ha.2
 have CB:=Lib.hid fun w'=>fold_ b w' hb.1 hb.2
 clear ha hb
 unfold collV at CO⊢
 have T0:=(Ux.Touch.refl (fun _=>False) w).alloc (.cells #[.int .i64 k,.int .i64 0,.bool false,.bool false,.pointer none] 25)
 obtain ⟨w1,hw1⟩: ∃w1,w.alloc (.cells #[.int .i64 k,.int .i64 0,.bool false,.bool false,.pointer none] 25)=w1:=⟨_,rfl⟩
 rw [hw1] at T0
 obtain ⟨B,hB⟩: ∃B,w.heap.size=B:=⟨_,rfl⟩
 have h1:w1.heap[B]? =some (.cells #[.int .i64 k,.int .i64 0,.bool false,.bool false,.pointer none] 25 (0,0)):=by rw [←hw1,←hB];exact heap_alloc_new w _
 have c0:w1.cell? ⟨B,0,none⟩=some (.int .i64 k):=by rw [cell_of_row w1 B 0 _ _ (0,0) h1];rfl
 have c1:w1.cell? ⟨B,1,none⟩=some (.int .i64 0):=by rw [cell_of_row w1 B 1 _ _ (0,0) h1];rfl
 have c2:w1.cell? ⟨B,2,none⟩=some (.bool false):=by rw [cell_of_row w1 B 2 _ _ (0,0) h1];rfl
 have c3:w1.cell? ⟨B,3,none⟩=some (.bool false):=by rw [cell_of_row w1 B 3 _ _ (0,0) h1];rfl
 have c4:w1.cell? ⟨B,4,none⟩=some (.pointer none):=by rw [cell_of_row w1 B 4 _ _ (0,0) h1];rfl
 have HT:=Lib.hid T0
 clear T0 h1
 cases hab:(a==b) with
 |true=>
  have e:eqvK k a b=true:=by
   have:a=b:=by simpa using hab
   subst this
   unfold eqvK
   split<;>simp
  rw [e]
  clear e hk c0 c1 c2 c3 c4
  go_enter Tryz.func78,Tryz.ntmps78
  go_wp2
  go_ret
  exact ⟨rfl,HT.out⟩
 |false=>
  go_enter Tryz.func78,Tryz.ntmps78
  go_wp2_with (go_at_call 19;fail)
  refine (CO.out _).mono ?_
  rintro e w2 ⟨rfl,T2⟩
  have d0:=T2.cell c0 (fun f=>f)
  have HT2:=Lib.hid (HT.out.trans T2 fun _ _ f=>f)
  clear T2 c0 c1 c2 c3 c4
  rcases hk with rfl|rfl
  ·have e:eqvK 1 a b=false:=by unfold eqvK;rw [if_neg (by decide)];exact hab
   have HE:=Lib.hid e
   clear e
   go_wp2
   go_ret
   refine ⟨?_,HT2.out⟩
   rw [HE.out]
   rfl
  ·have e:eqvK 2 a b=(foldI a==foldI b):=by unfold eqvK;rw [if_pos rfl]
   have HE:=Lib.hid e
   clear e
   go_wp2_with (go_at_call 121;fail)
   refine (CA.out _).mono ?_
   rintro e w3 ⟨rfl,rfl⟩
   go_wp2_with (go_at_call 121;fail)
   refine (CB.out _).mono ?_
   rintro e w3 ⟨rfl,rfl⟩
   go_wp2
   go_ret
   refine ⟨?_,HT2.out⟩
   rw [HE.out]
   rfl
end Go.Proofs.YtikmdhhbamggfaaGreatDoor
namespace Go.Proofs.YtikmdhhbamggfaaGreatDoor
open Go.RowKit
open Ux (Row iv sv bv)
open Ux.Sign (signs)
open Ux.Like (pat elt)
theorem valid_ (s:ByteArray) (w:World) (hs:s.size≤1000000000) (hT:Tabs w):Calls Tryz.prog 82 #[.string s] w fun e w'=>e= .returned (.bool ((signs s.data.toList).all fun c=>decide (c<1114112)))∧Ux.Touch (fun _=>False) w w':=by
 have c:Calls Tryz.prog 126 #[.string s] w fun e w'=>e= .returned (.bool (Lib.validD s.data.toList))∧Below w.heap.size w w':=Any.utf8_ValidString Tryz.laysValid s w (by omega) hT
 rw [Ux.Sign.valid_signs] at c
 obtain ⟨v,hv⟩: ∃v,((signs s.data.toList).all fun c=>decide (c<1114112))=v:=⟨_,rfl⟩
 rw [hv] at c⊢
 have C:=Lib.hid c
 clear c hv hT hs
 go_enter Tryz.func82,Tryz.ntmps82
 go_wp2_with (go_at_call 126;fail)
 refine C.out.mono ?_
 rintro e w1 ⟨rfl,hb⟩
 have HB:=Lib.hid (Ux.Touch.of_below (R:=fun _=>False) hb)
 clear hb
 go_wp2
 go_ret
 exact ⟨rfl,HB.out⟩
def onlyS:List Nat→Option Nat
 | [c]=>if c<1114112 then some c else none
 |_=>none
def only (l:List UInt8):Option Nat:=onlyS (signs l)
def onlyV:Option Nat→Value
 |some c=> .tuple #[.int .i64 (c:Int),.bool true]
 |none=> .tuple #[.int .i64 0,.bool false]
set_option maxHeartbeats 2000000 in
set_option maxRecDepth 100000 in
theorem lsign_ (s:ByteArray) (w:World) (hs:s.size≤1000000000) (hT:Tabs w):Calls Tryz.prog 71 #[.string s] w fun e w'=>e= .returned (onlyV (only s.data.toList))∧Ux.Touch (fun _=>False) w w':=by
 have C:=Lib.hid (signs_ s w hs hT)
 have V:=Lib.hid fun w' (T:Ux.Touch (fun _=>False) w w')=>valid_ s w' hs (hT.touch T)
 have hlen:=signs_len s.data.toList
 have hlen2:s.data.toList.length=s.size:=by simp
 unfold only
 obtain ⟨l,hl⟩: ∃l,signs s.data.toList=l:=⟨_,rfl⟩
 rw [hl] at C V hlen⊢
 obtain ⟨r,hr⟩: ∃r,onlyS l=r:=⟨_,rfl⟩
 rw [hr]
 have HRR:=Lib.hid hr
 clear hT hl hr
 have hg:l.length≤1000000000:=by omega
 clear hlen hlen2 hs
 go_enter Tryz.func71,Tryz.ntmps71
 go_wp2_with (go_at_call 72;fail)
 refine C.out.mono ?_
 rintro e w1 ⟨v,rfl,hR,T1⟩
 have HT1:=Lib.hid T1
 have V1:=Lib.hid (V.out w1 T1)
 obtain ⟨a,c,rfl,hcell⟩:=hR.is
 obtain ⟨n,hn⟩: ∃n,(iv (sv l)).length=n:=⟨_,rfl⟩
 rw [hn]
 have hnl:l.length=n:=by rw [←hn,Ux.iv_length,Ux.sv_length]
 by_cases h1:n=1
 ·obtain ⟨x,rfl⟩: ∃x,l= [x]:=by
   match l,hnl with
   | [x],_=>exact ⟨x,rfl⟩
   | [],h=>simp at h;omega
   |_::_::_,h=>simp at h;omega
  obtain ⟨g,rfl,_,hc⟩:=hcell 0 _ (Ux.iv_get (Ux.sv_get (l:= [x]) (i:=0) rfl))
  subst h1
  clear hn hnl hcell hR T1 V C hg
  have e1:([x].all fun c=>decide (c<1114112))=decide (x<1114112):=by simp
  rw [e1] at V1
  by_cases hx:x<1114112
  ·rw [decide_eq_true hx] at V1
   have HX:=Lib.hid hx
   clear hx e1
   go_wp2_with (go_at_call 82;fail)
   refine V1.out.mono ?_
   rintro e w2 ⟨rfl,T2⟩
   have hc2:=T2.cell hc (fun f=>f)
   have HT2:=Lib.hid (HT1.out.trans T2 fun _ _ f=>f)
   clear hc T2
   go_wp2
   go_returns
   refine ⟨?_,HT2.out⟩
   have e:(if x<1114112 then some x else none)=r:=HRR.out
   rw [if_pos HX.out] at e
   rw [←e]
   rfl
  ·rw [decide_eq_false hx] at V1
   have HX:=Lib.hid hx
   clear hx e1 hc
   go_wp2_with (go_at_call 82;fail)
   refine V1.out.mono ?_
   rintro e w2 ⟨rfl,T2⟩
   have HT2:=Lib.hid (HT1.out.trans T2 fun _ _ f=>f)
   clear T2
   go_wp2
   go_returns
   refine ⟨?_,HT2.out⟩
   have e:(if x<1114112 then some x else none)=r:=HRR.out
   rw [if_neg HX.out] at e
   rw [←e]
   rfl
 ·have z1:((n:Int)==1)=false:=by simp;omega
  have e:r=none:=by
   rw [←HRR.out]
   match l,hnl with
   | [x],h=>simp at h;omega
   | [],_=>rfl
   |_::_::_,_=>rfl
  have HE:=Lib.hid e
  clear e hn hnl hcell hR T1 V C hg V1
  go_wp2
  go_returns
  refine ⟨?_,HT1.out⟩
  rw [HE.out]
  rfl
def MadeV (w:World) (lo:Nat) (r:Option (List Int)) (er:Int) (x:Value):Prop:=match r with
 |some P=> ∃v,x= .tuple #[.agg #[v],.int .i64 0]∧Row w lo 3 v (iv P)
 |none=>x= .tuple #[.agg #[.slice none 0 0],.int .i64 er]∧er≠0
def MakeSays (w:World) (lo:Nat) (n:Nat) (oe:Option Nat) (r:Option (List Int)) (x:Value):Prop:=if n≠0∧oe=none then MadeV w lo none 1 x else MadeV w lo r 3 x
theorem eltI (c:Nat):elt c=if (c:Int)=37 then-1 else if (c:Int)=95 then-2 else (c:Int):=by
 unfold elt
 split
 ·rw [if_pos (show (c:Int)=37 by omega)]
 ·rw [if_neg (show¬(c:Int)=37 by omega)]
  split
  ·rw [if_pos (show (c:Int)=95 by omega)]
  ·rw [if_neg (show¬(c:Int)=95 by omega)]
set_option maxHeartbeats 8000000 in
set_option maxRecDepth 100000 in
theorem make_ (p:ByteArray) (esc:ByteArray) (w:World) (hp:p.size≤1000000) (hT:Tabs w) (he:esc.size≤1000000) (oe:Option Nat) (hoe:only esc.data.toList=oe) (r:Option (List Int)) (hr:pat oe (signs p.data.toList)=r):
 Calls Tryz.prog 32 #[.string p,.string esc] w fun e w'=> ∃x,e= .returned x∧MakeSays w' w.heap.size esc.size oe r x∧Ux.Touch (fun _=>False) w w':=by
 obtain ⟨B,hB⟩: ∃B,w.heap.size=B:=⟨_,rfl⟩
 have CE:=Lib.hid fun w' (T:Ux.Touch (fun _=>False) w w')=>lsign_ esc w' (by omega) (hT.touch T)
 have CS:=Lib.hid fun w' (T:Ux.Touch (fun _=>False) w w')=>signs_ p w' (by omega) (hT.touch T)
 rw [hoe] at CE
 obtain ⟨l,hl⟩: ∃l,signs p.data.toList=l:=⟨_,rfl⟩
 have hlen:l.length≤1000000:=by rw [←hl];have:=signs_len p.data.toList;have e:p.data.toList.length=p.size:=by simp
                                omega
 rw [hl] at CS hr
 have HL:=Lib.hid (And.intro hr hlen)
 have HB:=Lib.hid hB
 have W0:=(Ux.Touch.refl (fun _=>False) w).alloc (.cells #[.slice none 0 0] 51)
 have h0:(w.alloc (.cells #[.slice none 0 0] 51)).heap[B]? =some (.cells #[.slice none 0 0] 51 (0,0)):=by rw [←hB];exact heap_alloc_new w _
 have HW:=Lib.hid (And.intro W0 h0)
 have hov: ∃(x:Int) (ok:Bool),onlyV oe= .tuple #[.int .i64 x,.bool ok]∧(ok=true→∃c:Nat,oe=some c∧x=c)∧(ok=false→oe=none):=by
  cases oe with
  |none=>exact ⟨0,false,rfl,(fun h=>by cases h),fun _=>rfl⟩
  |some c=>exact ⟨c,true,rfl,fun _=>⟨c,rfl,rfl⟩,(fun h=>by cases h)⟩
 obtain ⟨x,ok,hov,hok1,hok2⟩:=hov
 rw [hov] at CE
 have HO:=Lib.hid (And.intro hok1 hok2)
 obtain ⟨emp,hemp⟩: ∃emp,esc.toList.isEmpty=emp:=⟨_,rfl⟩
 have hempt:emp=true↔esc.size=0:=by
  rw [←hemp,Lib.toList_data,List.isEmpty_iff]
  constructor
  ·intro h;have:=congrArg List.length h;simpa using this
  ·intro h;exact List.eq_nil_of_length_eq_zero (by simpa using h)
 have HM:=Lib.hid hempt
 clear hp hT he hr hl hov hok1 hok2 W0 h0 hlen hoe hempt
 go_enter Tryz.func32,Tryz.ntmps32
 go_wp2_with (go_at_call 71;fail)
 refine (CE.out _ HW.out.1).mono ?_
 rintro e w1 ⟨rfl,T1⟩
 have h1:=T1.heap HW.out.2 (fun f=>f)
 have TW:=HW.out.1.trans T1 fun _ _ f=>f
 have H1:=Lib.hid (And.intro h1 TW)
 clear T1 h1 TW
 by_cases hno:esc.size≠0∧oe=none
 ·have hf:emp=false:=by
   rw [Bool.eq_false_iff]
   exact fun h=>hno.1 (HM.out.1 h)
  have hk:ok=false:=by
   cases hk:ok with
   |false=>rfl
   |true=>obtain ⟨c,h,_⟩:=HO.out.1 hk;rw [hno.2] at h;cases h
  subst hf hk
  have c0:w1.cell? ⟨B,0,none⟩=some (.slice none 0 0):=by rw [cell_of_row w1 B 0 _ _ (0,0) H1.out.1];rfl
  have c1:=Ux.frozen_row H1.out.1 0
  have HN:=Lib.hid hno
  clear hno
  go_wp2
  obtain ⟨wE,hwE⟩: ∃wE,World.setCell w1 ⟨B,0,none⟩ (.slice none 0 0)=wE:=⟨_,rfl⟩
  rw [hwE]
  have cE:wE.cell? ⟨B,0,none⟩=some (.slice none 0 0):=by rw [←hwE,cell_of_row _ B 0 _ _ (0,0) (Ux.setCell_row H1.out.1 0 _)];rfl
  have HE:=Lib.hid hwE
  clear hwE
  refine bodyPost_ret (by simp [results,Tryz.results32,go_sem,cE];try rfl) rfl ?_
  refine ⟨_,rfl,?_,by rw [←HE.out];exact (H1.out.2).setCell (p:=⟨B,0,none⟩) (fun h=>by simp only at h;have:=HB.out;omega) _⟩
  unfold MakeSays
  rw [if_pos HN.out]
  exact ⟨rfl,by decide⟩
 ·have hno2:emp=true∨emp=false∧ok=true:=by
   cases hemp2:emp with
   |true=>exact .inl rfl
   |false=>
    refine .inr ⟨rfl,?_⟩
    cases hk:ok with
    |true=>rfl
    |false=>exact absurd (And.intro (fun h=>by have:=HM.out.2 h;rw [hemp2] at this;cases this) (HO.out.2 hk)) hno
  have HN:=Lib.hid hno
  clear hno
  have HIF: ∀w' lo r x,MakeSays w' lo esc.size oe r x=MadeV w' lo r 3 x:=fun _ _ _ _=>if_neg HN.out
  have HIFF:=Lib.hid HIF
  clear HIF
  rcases hno2 with rfl|⟨rfl,hK⟩
  all_goals
   go_wp2_with (go_at_call 72;fail)
   refine (CS.out _ H1.out.2).mono ?_
   rintro e w2 ⟨sv2,rfl,hR2,T2⟩
   obtain ⟨al,cl,rfl,_⟩:=hR2.is
   obtain ⟨n,hn⟩: ∃n,l.length=n:=⟨_,rfl⟩
   rw [Ux.iv_length,Ux.sv_length,hn] at hR2⊢
   have g1:(n:Int)≤1000000:=by have:=HL.out.2;omega
   have h2:=T2.heap H1.out.1 (fun f=>f)
   have H2:=Lib.hid (And.intro hR2 (And.intro h2 (And.intro (H1.out.2.trans T2 fun _ _ f=>f) hn)))
   clear hR2 h2 T2 hn
   go_wp2
   go_loopg [8,10] n (fun g s8 s10 wr=> ∃(i:Nat) (acc:List Int),s10= .int .i64 i∧i≤n∧n≤i+g∧Hid (((pat oe (l.drop i)).map (acc++ ·))=r∧Ux.Grow wr w2.heap.size 3 s8 (iv acc)∧Ux.Touch (fun _=>False) w2 wr∧acc.length≤i))
   case atStart=>
    exact ⟨0,[],rfl,by omega,by omega,Lib.hid ⟨by rw [List.drop_zero,HL.out.1];cases r<;>rfl,Ux.Grow.nil _ _ _,Ux.Touch.refl _ _,Nat.le_refl _⟩⟩
   case round=>
    obtain ⟨i,acc,rfl,hin,hig,HI⟩:=hrel
    have p0:(0:Int)≤i:=by omega
    have hbw:=HI.out.2.2.1.heap H2.out.2.1 (fun f=>f)
    by_cases hlt:i<n
    ·obtain ⟨g',rfl⟩: ∃g',gk=g'+1:=⟨gk-1,by omega⟩
     have j1:(i:Int)<n:=by omega
     obtain ⟨d,hd⟩: ∃d,l[i]? =some d:=⟨l[i]'(by have:=H2.out.2.2.2;omega),List.getElem?_eq_getElem _⟩
     obtain ⟨gl,rfl,hglo,cl0⟩:=H2.out.1.at (Ux.iv_get (Ux.sv_get hd))
     have hRR:=HI.out.1
     rw [Ux.drop_get hd,Ux.Like.pat_cons] at hRR
     have cl1:wr.cell? ⟨gl,i,none⟩=some (.int .i64 (d:Int)):=HI.out.2.2.1.cell cl0 (fun f=>f)
     by_cases hesc:oe=some d
     ·have hok:ok=true∧x=d:=by
       cases hk:ok with
       |false=>have:=HO.out.2 hk;rw [hesc] at this;cases this
       |true=>obtain ⟨c,h,hx⟩:=HO.out.1 hk;rw [hesc] at h;cases h;exact ⟨rfl,hx⟩
      obtain ⟨hok,rfl⟩:=hok
      try subst hok
      rw [if_pos hesc] at hRR
      clear hesc
      by_cases hend:i+1=n
      ·have z1:((i:Int)+1==n)=true:=by simp;omega
       have hnil:l.drop (i+1)= []:=List.drop_eq_nil_of_le (by have:=H2.out.2.2.2;omega)
       rw [hnil] at hRR
       have HRR:=Lib.hid (And.intro (show none=r from hRR) hbw)
       have c0:wr.cell? ⟨B,0,none⟩=some (.slice none 0 0):=by rw [cell_of_row wr B 0 _ _ (0,0) (hbw)];rfl
       have c1:=Ux.frozen_row (hbw) 0
       clear hRR hnil hd cl0 hbw
       go_wp2
       obtain ⟨wE,hwE⟩: ∃wE,World.setCell wr ⟨B,0,none⟩ (.slice none 0 0)=wE:=⟨_,rfl⟩
       rw [hwE]
       have cE:wE.cell? ⟨B,0,none⟩=some (.slice none 0 0):=by rw [←hwE,cell_of_row _ B 0 _ _ (0,0) (Ux.setCell_row HRR.out.2 0 _)];rfl
       have HE:=Lib.hid hwE
       clear hwE
       refine bodyPost_ret (by simp [results,Tryz.results32,go_sem,cE];try rfl) rfl ?_
       refine ⟨_,rfl,?_,by rw [←HE.out];exact (H2.out.2.2.1.trans HI.out.2.2.1 fun _ _ f=>f).setCell (p:=⟨B,0,none⟩) (fun h=>by simp only at h;have:=HB.out;omega) _⟩
       rw [HIFF.out,←HRR.out.1]
       exact ⟨rfl,by decide⟩
      ·have z1:((i:Int)+1==n)=false:=by simp;omega
       have hlt2:i+1<n:=by omega
       have j2:(i:Int)+1<n:=by omega
       obtain ⟨d2,hd2⟩: ∃d,l[i+1]? =some d:=⟨l[i+1]'(by have:=H2.out.2.2.2;omega),List.getElem?_eq_getElem _⟩
       obtain ⟨gl2,hgl2,_,cl2⟩:=H2.out.1.at (Ux.iv_get (Ux.sv_get hd2))
       cases hgl2
       have cl3:wr.cell? ⟨gl,i+1,none⟩=some (.int .i64 (d2:Int)):=HI.out.2.2.1.cell cl2 (fun f=>f)
       rw [Ux.drop_get hd2] at hRR
       have HRR:=Lib.hid hRR
       clear hRR hd cl0 hbw cl2 hd2
       obtain ⟨r2,w3,run2,hG2,t2⟩:=appI HI.out.2.1 1 [.int .i64 (d2:Int)] rfl (by simp [Value.oneCell']) HI.out.2.2.1.size (by have:=HI.out.2.2.2;have:=HL.out.2;have:=H2.out.2.2.2;rw [Ux.iv_length];omega)
       obtain ⟨a2,m2,c2,rfl,hm2⟩:=hG2.is
       have R2:=Lib.hid run2
       have HG2:=Lib.hid (And.intro hG2 (Ux.Touch.own HI.out.2.2.1 (Nat.le_refl _) t2))
       obtain ⟨a,m,c,rfl,hm⟩:=HI.out.2.1.is
       clear run2 hG2 t2 hm2 hm
       go_wp2_with (at_builtin;refine Ux.wpList_app (v1:= .slice a m c) (x1:= .slice (some ⟨wr.heap.size,0,none⟩) 1 1) rfl _ _ _ _ rfl rfl rfl (R2.out _) ?_)
       go_roundg g'
       case measure=>omega
       case rel=>exact ⟨i+1+1,acc++ [(d2:Int)],rfl,by omega,by omega,Lib.hid ⟨by rw [←HRR.out];cases pat oe (l.drop (i+1+1))<;>simp,by rw [Ux.iv_append];exact HG2.out.1,HG2.out.2,by rw [List.length_append];have:=HI.out.2.2.2;simp;omega⟩⟩
     ·rw [if_neg hesc] at hRR
      have HRR:=Lib.hid hRR
      have hne:ok=false∨ok=true∧((d:Int)==x)=false:=by
       cases hk:ok with
       |false=>exact .inl rfl
       |true=>
        obtain ⟨c,h,hx⟩:=HO.out.1 hk
        refine .inr ⟨rfl,?_⟩
        rw [hx]
        simp
        intro e
        exact hesc (by rw [h];exact congrArg some (by omega))
      clear hRR hd cl0 hbw hesc
      by_cases h37:(d:Int)=37
      ·have hel:elt d= -1:=by rw [eltI,if_pos h37]
       have HEL:=Lib.hid hel
       have z37:((d:Int)==37)=true:=by simpa using h37
       clear hel h37
       rcases hne with hne|⟨hne,hne2⟩
       all_goals (try subst hne)
       all_goals (try (cases hK;done))
       all_goals
        obtain ⟨r2,w3,run2,hG2,t2⟩:=appI HI.out.2.1 1 [.int .i64 (-1)] rfl (by simp [Value.oneCell']) HI.out.2.2.1.size (by have:=HI.out.2.2.2;have:=HL.out.2;have:=H2.out.2.2.2;rw [Ux.iv_length];omega)
        obtain ⟨a2,m2,c2,rfl,hm2⟩:=hG2.is
        have R2:=Lib.hid run2
        have HG2:=Lib.hid (And.intro hG2 (Ux.Touch.own HI.out.2.2.1 (Nat.le_refl _) t2))
        obtain ⟨a,m,c,rfl,hm⟩:=HI.out.2.1.is
        clear run2 hG2 t2 hm2 hm
        go_wp2_with (at_builtin;refine Ux.wpList_app (v1:= .slice a m c) (x1:= .slice (some ⟨wr.heap.size,0,none⟩) 1 1) rfl _ _ _ _ rfl rfl rfl (R2.out _) ?_)
        go_roundg g'
        case measure=>omega
        case rel=>exact ⟨i+1,acc++ [(-1)],rfl,by omega,by omega,Lib.hid ⟨by rw [←HRR.out];rw [HEL.out];cases pat oe (l.drop (i+1))<;>simp,by rw [Ux.iv_append];exact HG2.out.1,HG2.out.2,by rw [List.length_append];have:=HI.out.2.2.2;simp;omega⟩⟩
      ·have z37:((d:Int)==37)=false:=by simpa using h37
       by_cases h95:(d:Int)=95
       ·have hel:elt d= -2:=by rw [eltI,if_neg h37,if_pos h95]
        have HEL:=Lib.hid hel
        have z95:((d:Int)==95)=true:=by simpa using h95
        clear hel h37 h95
        rcases hne with hne|⟨hne,hne2⟩
        all_goals (try subst hne)
        all_goals (try (cases hK;done))
        all_goals
         obtain ⟨r2,w3,run2,hG2,t2⟩:=appI HI.out.2.1 1 [.int .i64 (-2)] rfl (by simp [Value.oneCell']) HI.out.2.2.1.size (by have:=HI.out.2.2.2;have:=HL.out.2;have:=H2.out.2.2.2;rw [Ux.iv_length];omega)
         obtain ⟨a2,m2,c2,rfl,hm2⟩:=hG2.is
         have R2:=Lib.hid run2
         have HG2:=Lib.hid (And.intro hG2 (Ux.Touch.own HI.out.2.2.1 (Nat.le_refl _) t2))
         obtain ⟨a,m,c,rfl,hm⟩:=HI.out.2.1.is
         clear run2 hG2 t2 hm2 hm
         go_wp2_with (at_builtin;refine Ux.wpList_app (v1:= .slice a m c) (x1:= .slice (some ⟨wr.heap.size,0,none⟩) 1 1) rfl _ _ _ _ rfl rfl rfl (R2.out _) ?_)
         go_roundg g'
         case measure=>omega
         case rel=>exact ⟨i+1,acc++ [(-2)],rfl,by omega,by omega,Lib.hid ⟨by rw [←HRR.out];rw [HEL.out];cases pat oe (l.drop (i+1))<;>simp,by rw [Ux.iv_append];exact HG2.out.1,HG2.out.2,by rw [List.length_append];have:=HI.out.2.2.2;simp;omega⟩⟩
       ·have hel:elt d=(d:Int):=by rw [eltI,if_neg h37,if_neg h95]
        have HEL:=Lib.hid hel
        have z95:((d:Int)==95)=false:=by simpa using h95
        clear hel h37 h95
        rcases hne with hne|⟨hne,hne2⟩
        all_goals (try subst hne)
        all_goals (try (cases hK;done))
        all_goals
         obtain ⟨r2,w3,run2,hG2,t2⟩:=appI HI.out.2.1 1 [.int .i64 (d:Int)] rfl (by simp [Value.oneCell']) HI.out.2.2.1.size (by have:=HI.out.2.2.2;have:=HL.out.2;have:=H2.out.2.2.2;rw [Ux.iv_length];omega)
         obtain ⟨a2,m2,c2,rfl,hm2⟩:=hG2.is
         have R2:=Lib.hid run2
         have HG2:=Lib.hid (And.intro hG2 (Ux.Touch.own HI.out.2.2.1 (Nat.le_refl _) t2))
         obtain ⟨a,m,c,rfl,hm⟩:=HI.out.2.1.is
         clear run2 hG2 t2 hm2 hm
         go_wp2_with (at_builtin;refine Ux.wpList_app (v1:= .slice a m c) (x1:= .slice (some ⟨wr.heap.size,0,none⟩) 1 1) rfl _ _ _ _ rfl rfl rfl (R2.out _) ?_)
         go_roundg g'
         case measure=>omega
         case rel=>exact ⟨i+1,acc++ [(d:Int)],rfl,by omega,by omega,Lib.hid ⟨by rw [←HRR.out];rw [HEL.out];cases pat oe (l.drop (i+1))<;>simp,by rw [Ux.iv_append];exact HG2.out.1,HG2.out.2,by rw [List.length_append];have:=HI.out.2.2.2;simp;omega⟩⟩
    ·obtain rfl:i=n:=by omega
     have j1: ¬(i:Int)<i:=by omega
     have hRR:=HI.out.1
     have hnil:l.drop i= []:=List.drop_eq_nil_of_le (by have:=H2.out.2.2.2;omega)
     rw [hnil] at hRR
     have hrow:=HI.out.2.1.row
     have HRR:=Lib.hid (And.intro (show some (acc++ [])=r from hRR) (And.intro hbw hrow))
     obtain ⟨a,m,c,rfl,hm⟩:=HI.out.2.1.is
     have c0:wr.cell? ⟨B,0,none⟩=some (.slice none 0 0):=by rw [cell_of_row wr B 0 _ _ (0,0) (hbw)];rfl
     have c1:=Ux.frozen_row (hbw) 0
     clear hRR hnil hbw hrow hm
     go_wp2
     obtain ⟨wE,hwE⟩: ∃wE,World.setCell wr ⟨B,0,none⟩ (.slice a m c)=wE:=⟨_,rfl⟩
     rw [hwE]
     have cE:wE.cell? ⟨B,0,none⟩=some (.slice a m c):=by rw [←hwE,cell_of_row _ B 0 _ _ (0,0) (Ux.setCell_row HRR.out.2.1 0 _)];rfl
     have HE:=Lib.hid hwE
     clear hwE
     refine bodyPost_ret (by simp [results,Tryz.results32,go_sem,cE];try rfl) rfl ?_
     refine ⟨_,rfl,?_,by rw [←HE.out];exact (H2.out.2.2.1.trans HI.out.2.2.1 fun _ _ f=>f).setCell (p:=⟨B,0,none⟩) (fun h=>by simp only at h;have:=HB.out;omega) _⟩
     rw [HIFF.out,←HRR.out.1]
     refine ⟨_,rfl,?_⟩
     rw [List.append_nil,←HE.out]
     have hB2:=Ux.lt_of_heap H2.out.2.1
     exact (HRR.out.2.2.touch (Ux.Touch.setCell (R:=fun b=>b=B) (Ux.Touch.refl _ _) (p:=⟨B,0,none⟩) (fun _=>rfl) _) (fun b hb _ he=>by omega)).mono (by have:=H2.out.2.2.1.size;omega)
end Go.Proofs.YtikmdhhbamggfaaGreatDoor
namespace Go.Proofs.YtikmdhhbamggfaaGreatDoor
open Go.RowKit
open Ux (Row iv sv bv)
open Ux.Sign (put)
theorem pref1_ (c:Int) (w:World):Calls Tryz.prog 75 #[.int .i64 c] w fun e w'=>e= .returned (.bool (decide (c<0)))∧w'=w:=by
 go_enter Tryz.func75,Tryz.ntmps75
 go_wp2
 go_ret
 exact ⟨rfl,rfl⟩
def idxNeg (l:List Int):Int:=match l.findIdx? (fun c=>decide (c<0)) with
 |some i=>i
 |none=> -1
set_option maxHeartbeats 2000000 in
set_option maxRecDepth 100000 in
theorem indexNeg_ (v:Value) (l:List Int) (lo:Nat) (w:World) (hR:Row w lo 3 v (iv l)) (hn:l.length≤1000000000):
 Calls Tryz.prog 74 #[v,.func (.func 75) #[] #[]] w fun e w'=>e= .returned (.int .i64 (idxNeg l))∧w'=w:=by
 obtain ⟨a,c,rfl,hcell⟩:=hR.is
 obtain ⟨n,hnn⟩: ∃n,(iv l).length=n:=⟨_,rfl⟩
 rw [hnn]
 have hnl:l.length=n:=by rw [←hnn,Ux.iv_length]
 have g0:(n:Int)≤1000000000:=by omega
 have HH:=Lib.hid (And.intro hnl hcell)
 clear hnl hcell hR hnn hn
 go_enter Tryz.func74,Tryz.ntmps74
 go_wp2
 go_loopg [8] n (fun g s8 wr=> ∃i:Nat,s8= .int .i64 i∧i+g=n∧wr=w∧Hid (∀j x,j<i→l[j]? =some x→¬x<0))
 case atStart=>exact ⟨0,rfl,by omega,rfl,Lib.hid fun j x h=>by omega⟩
 case round=>
  obtain ⟨i,rfl,hig,rfl,HI⟩:=hrel
  have p0:(0:Int)≤i:=by omega
  by_cases hlt:i<n
  ·obtain ⟨g',rfl⟩: ∃g',gk=g'+1:=⟨gk-1,by omega⟩
   have j1:(i:Int)<n:=by omega
   obtain ⟨x,hx⟩: ∃x,l[i]? =some x:=⟨l[i]'(by have:=HH.out.1;omega),List.getElem?_eq_getElem _⟩
   obtain ⟨g0',rfl,_,hc0⟩:=HH.out.2 i _ (Ux.iv_get hx)
   have CP:=Lib.hid (pref1_ x)
   by_cases hx0:x<0
   ·have d:decide (x<0)=true:=decide_eq_true hx0
    rw [d] at CP
    have hidx:idxNeg l=i:=by
     unfold idxNeg
     have:l.findIdx? (fun c=>decide (c<0))=some i:=by
      rw [List.findIdx?_eq_some_iff_getElem]
      obtain ⟨hl,he⟩:=List.getElem?_eq_some_iff.1 hx
      refine ⟨hl,by rw [he];exact d,fun j hj=> ?_⟩
      simp only [decide_eq_true_eq]
      exact HI.out j _ hj (List.getElem?_eq_getElem (by omega))
     rw [this]
    have HX:=Lib.hid hidx
    clear hidx hx d hx0
    go_wp2_with (go_at_call 75;refine (CP.out _).mono ?_;rintro e w' ⟨rfl,rfl⟩)
    go_ret
    refine ⟨?_,rfl⟩
    rw [HX.out]
    rfl
   ·have d:decide (x<0)=false:=decide_eq_false hx0
    rw [d] at CP
    have HX:=Lib.hid (And.intro hx hx0)
    clear hx d hx0
    go_wp2_with (go_at_call 75;refine (CP.out _).mono ?_;rintro e w' ⟨rfl,rfl⟩)
    go_roundg g'
    case measure=>omega
    case rel=>
     refine ⟨i+1,rfl,by omega,rfl,Lib.hid fun j y hj hy=> ?_⟩
     by_cases h:j=i
     ·subst h
      rw [HX.out.1] at hy
      cases hy
      exact HX.out.2
     ·exact HI.out j y (by omega) hy
  ·obtain rfl:i=n:=by omega
   have j1: ¬(i:Int)<i:=by omega
   have hidx:idxNeg l= -1:=by
    unfold idxNeg
    have:l.findIdx? (fun c=>decide (c<0))=none:=by
     rw [List.findIdx?_eq_none_iff]
     intro x hx
     obtain ⟨j,hj⟩:=List.mem_iff_getElem?.1 hx
     have:=HI.out j x (by have:=(List.getElem?_eq_some_iff.1 hj).1;have:=HH.out.1;omega) hj
     simpa using this
    rw [this]
   have HX:=Lib.hid hidx
   clear hidx hlt
   go_wp2
   go_ret
   refine ⟨?_,rfl⟩
   rw [HX.out]
   rfl
theorem idx_none {l:List Nat}:idxNeg (sv l)= -1:=by
 unfold idxNeg
 have:(sv l).findIdx? (fun c=>decide (c<0))=none:=by
  rw [List.findIdx?_eq_none_iff]
  intro x hx
  unfold sv at hx
  obtain ⟨c,_,rfl⟩:=List.mem_map.1 hx
  simp
 rw [this]
theorem idx_some {l:List Nat} {x:Int} {r:List Int} (hx:x<0):idxNeg (sv l++x::r)=l.length:=by
 unfold idxNeg
 have:(sv l++x::r).findIdx? (fun c=>decide (c<0))=some l.length:=by
  rw [List.findIdx?_eq_some_iff_getElem]
  refine ⟨by simp [Ux.sv_length],?_,fun j hj=> ?_⟩
  ·rw [List.getElem_append_right (by rw [Ux.sv_length];exact Nat.le_refl _)]
   simp [Ux.sv_length,hx]
  ·rw [List.getElem_append_left (by rw [Ux.sv_length];exact hj)]
   unfold sv
   simp
 rw [this]
set_option maxHeartbeats 2000000 in
set_option maxRecDepth 100000 in
theorem prefix_ (v:Value) (l:List Nat) (r:List Int) (hr:r= []∨∃x r',r=x::r'∧x<0) (hl: ∀c∈l,c<1114368) (lo:Nat) (w:World) (hR:Row w lo 3 v (iv (sv l++r))) (hn:(sv l++r).length≤1000000):
 Calls Tryz.prog 34 #[.agg #[v]] w fun e w'=>e= .returned (.tuple #[.string ⟨(put l).toArray⟩,.bool r.isEmpty])∧Ux.Touch (fun _=>False) w w':=by
 obtain ⟨B,hB⟩: ∃B,w.heap.size=B:=⟨_,rfl⟩
 obtain ⟨a,c,rfl,hcell⟩:=hR.is
 obtain ⟨n,hnn⟩: ∃n,(iv (sv l++r)).length=n:=⟨_,rfl⟩
 rw [hnn] at hR⊢
 have T0:=(Ux.Touch.refl (fun _=>False) w).alloc (.cells #[.slice a n c] 51)
 obtain ⟨w1,hw1⟩: ∃w1,w.alloc (.cells #[.slice a n c] 51)=w1:=⟨_,rfl⟩
 have h1:w1.heap[B]? =some (.cells #[.slice a n c] 51 (0,0)):=by rw [←hw1,←hB];exact heap_alloc_new w _
 rw [hw1] at T0
 have c0:w1.cell? ⟨B,0,none⟩=some (.slice a n c):=by rw [cell_of_row w1 B 0 _ _ (0,0) h1];rfl
 have hR1:=hR.touch0 T0
 have hln:l.length≤1000000:=by rw [List.length_append,Ux.sv_length] at hn;omega
 have CI:=Lib.hid (indexNeg_ _ _ lo w1 hR1 (by omega))
 have HT:=Lib.hid T0
 rcases hr with rfl|⟨x,r',rfl,hx⟩
 ·rw [List.append_nil] at hR1 CI
  rw [idx_none] at CI
  have CP:=Lib.hid (putAll_ _ l lo w1 hR1 hl (by omega))
  clear hn hl hR hcell hR1 T0 h1 hnn
  go_enter Tryz.func34,Tryz.ntmps34
  go_wp2_with (go_at_call 74;refine CI.out.mono ?_;rintro e w' ⟨rfl,rfl⟩)
  go_wp2_with (go_at_call 76;fail)
  refine CP.out.mono ?_
  rintro e w2 ⟨rfl,T2⟩
  have HT2:=Lib.hid (HT.out.trans T2 fun _ _ f=>f)
  clear T2
  go_wp2
  go_returns
  exact ⟨rfl,HT2.out⟩
 ·rw [idx_some hx] at CI
  obtain ⟨k,hk⟩: ∃k,l.length=k:=⟨_,rfl⟩
  have ha:a≠none:=by
   obtain ⟨g,rfl,_⟩:=hR1.at (j:=k) (u:= .int .i64 x) (by rw [←hk];unfold iv sv;simp)
   simp
  have htk:=hR1.take ha k (by rw [Ux.iv_length,List.length_append,Ux.sv_length];omega)
  have e:(iv (sv l++x::r')).take k=iv (sv l):=by
   rw [Ux.iv_append,List.take_left' (by rw [Ux.iv_length,Ux.sv_length,hk])]
  rw [e] at htk
  rw [hk] at CI
  have CP:=Lib.hid (putAll_ _ l lo w1 htk hl (by omega))
  have k0: ¬((k:Int)<0):=by omega
  have k1:k≤c:=by
   rcases htk with ⟨h,_⟩|⟨g,c',cur,h,_,_,h3,_⟩
   ·cases h;exact absurd rfl ha
   ·cases h;rw [Ux.iv_length,Ux.sv_length,hk] at h3;exact h3
  have k2:(k:Int)≤c:=by omega
  clear hn hl hR hcell hR1 T0 h1 hnn htk e hk hx ha
  go_enter Tryz.func34,Tryz.ntmps34
  go_wp2_with (go_at_call 74;refine CI.out.mono ?_;rintro e w' ⟨rfl,rfl⟩)
  go_wp2_with (go_at_call 76;fail)
  refine CP.out.mono ?_
  rintro e w2 ⟨rfl,T2⟩
  have HT2:=Lib.hid (HT.out.trans T2 fun _ _ f=>f)
  clear T2
  go_wp2
  go_returns
  exact ⟨rfl,HT2.out⟩
end Go.Proofs.YtikmdhhbamggfaaGreatDoor
namespace Go.Proofs.YtikmdhhbamggfaaGreatDoor
open Go.RowKit
open Ux (Row iv sv bv)
open Ux.Sign (signs)
open Ux.Like (mat At hit)
theorem row_at {w:World} {lo n c:Nat} {t:TypeId} {a:Option Addr} {xs:List Value} (h:Row w lo t (.slice a n c) xs) {j:Nat} {u:Value} (hj:xs[j]? =some u): ∃g,a=some ⟨g,0,none⟩∧lo≤g∧w.cell? ⟨g,j,none⟩=some u:=by
 obtain ⟨a',c',e,h⟩:=h.is
 injection e with e1 _ _
 subst e1
 exact h j u hj
set_option maxHeartbeats 8000000 in
set_option maxRecDepth 100000 in
theorem match_ (eqv:Int→Int→Bool) (kd lv:Int) (sh bk:Bool) (tb:Option Addr) (P:List Int) (pv:Value) (lo:Nat) (s:ByteArray) (w:World) (hs:s.size≤1000000) (hT:Tabs w) (hP:Row w lo 3 pv (iv P)) (hp:P.length≤1000000)
 (hA: ∀(a b:Int) (w':World),a∈P→a≠-1→a≠-2→b∈sv (signs s.data.toList)→Ux.Touch (fun _=>False) w w'→
   Calls Tryz.prog 78 #[.agg #[.int .i64 kd,.int .i64 lv,.bool sh,.bool bk,.pointer tb],.int .i64 a,.int .i64 b] w' fun e w''=>e= .returned (.bool (eqv a b))∧Ux.Touch (fun _=>False) w' w''):
 Calls Tryz.prog 36 #[.agg #[pv],.agg #[.int .i64 kd,.int .i64 lv,.bool sh,.bool bk,.pointer tb],.string s] w fun e w'=>e= .returned (.bool (mat eqv P (sv (signs s.data.toList))))∧Ux.Touch (fun _=>False) w w':=by
 obtain ⟨L,hL⟩: ∃L,sv (signs s.data.toList)=L:=⟨_,rfl⟩
 have C:=Lib.hid fun w' (T:Ux.Touch (fun _=>False) w w')=>signs_ s w' (by omega) (hT.touch T)
 rw [hL] at C hA⊢
 have hLn:L.length≤1000000:=by rw [←hL,Ux.sv_length];have:=signs_len s.data.toList;have e:s.data.toList.length=s.size:=by simp
                               omega
 obtain ⟨ap,cp,rfl,_⟩:=hP.is
 obtain ⟨np,hnp⟩: ∃np,P.length=np:=⟨_,rfl⟩
 rw [Ux.iv_length,hnp] at hP⊢
 obtain ⟨R,hR⟩: ∃R,mat eqv P L=R:=⟨_,rfl⟩
 rw [hR]
 have T0:=((Ux.Touch.refl (fun _=>False) w).alloc (.cells #[.slice ap np cp] 51)).alloc (.cells #[.int .i64 kd,.int .i64 lv,.bool sh,.bool bk,.pointer tb] 25)
 have e1:((w.alloc (.cells #[.slice ap np cp] 51)).alloc (.cells #[.int .i64 kd,.int .i64 lv,.bool sh,.bool bk,.pointer tb] 25)).heap[w.heap.size]? =some (.cells #[.slice ap np cp] 51 (0,0)):=
  ((Ux.Touch.refl (fun _=>False) _).alloc _).heap (heap_alloc_new w _) (fun f=>f)
 have e2:((w.alloc (.cells #[.slice ap np cp] 51)).alloc (.cells #[.int .i64 kd,.int .i64 lv,.bool sh,.bool bk,.pointer tb] 25)).heap[w.heap.size+1]? =some (.cells #[.int .i64 kd,.int .i64 lv,.bool sh,.bool bk,.pointer tb] 25 (0,0)):=by
  have:=heap_alloc_new (w.alloc (.cells #[.slice ap np cp] 51)) (.cells #[.int .i64 kd,.int .i64 lv,.bool sh,.bool bk,.pointer tb] 25)
  rwa [World.size_alloc] at this
 obtain ⟨w1,hw1⟩: ∃w1,(w.alloc (.cells #[.slice ap np cp] 51)).alloc (.cells #[.int .i64 kd,.int .i64 lv,.bool sh,.bool bk,.pointer tb] 25)=w1:=⟨_,rfl⟩
 obtain ⟨B,hB⟩: ∃B,w.heap.size=B:=⟨_,rfl⟩
 rw [hw1] at T0 e1 e2
 rw [hB] at e1 e2
 have C1:=C.out w1 T0
 have HH:=Lib.hid (And.intro T0 (And.intro e1 (And.intro e2 (And.intro hP (And.intro hA (And.intro hR (And.intro hLn (And.intro hp hnp))))))))
 have C:=Lib.hid C1
 have g0:(np:Int)≤1000000:=by omega
 clear hT hP hA T0 e1 e2 C1 hR hL hLn hp hnp hs
 go_enter Tryz.func36,Tryz.ntmps36
 go_wp2
 go_step3
 go_wp2_with (go_at_call 72;fail)
 refine C.out.mono ?_
 rintro e w2 ⟨lvv,rfl,hR2,T2⟩
 obtain ⟨al,cl,rfl,_⟩:=hR2.is
 obtain ⟨nl,hnl⟩: ∃nl,L.length=nl:=⟨_,rfl⟩
 rw [Ux.iv_length,hnl] at hR2⊢
 have g1:(nl:Int)≤1000000:=by have:=HH.out.2.2.2.2.2.2.1;omega
 have HT2:=Lib.hid (And.intro T2 (And.intro (HH.out.1.trans T2 fun _ _ f=>f) (And.intro hR2 hnl)))
 have CELLS: ∀wr,Ux.Touch (fun _=>False) w2 wr→wr.cell? ⟨B,0,none⟩=some (.slice ap np cp)∧wr.cell? ⟨B+1,0,none⟩=some (.int .i64 kd)∧wr.cell? ⟨B+1,1,none⟩=some (.int .i64 lv)∧wr.cell? ⟨B+1,2,none⟩=some (.bool sh)∧wr.cell? ⟨B+1,3,none⟩=some (.bool bk)∧wr.cell? ⟨B+1,4,none⟩=some (.pointer tb):=fun wr T=>by
  have f1:=(T2.trans T fun _ _ f=>f).heap HH.out.2.1 (fun f=>f)
  have f2:=(T2.trans T fun _ _ f=>f).heap HH.out.2.2.1 (fun f=>f)
  refine ⟨?_,?_,?_,?_,?_,?_⟩
  ·rw [cell_of_row wr B 0 _ _ (0,0) f1];rfl
  ·rw [cell_of_row wr (B+1) 0 _ _ (0,0) f2];rfl
  ·rw [cell_of_row wr (B+1) 1 _ _ (0,0) f2];rfl
  ·rw [cell_of_row wr (B+1) 2 _ _ (0,0) f2];rfl
  ·rw [cell_of_row wr (B+1) 3 _ _ (0,0) f2];rfl
  ·rw [cell_of_row wr (B+1) 4 _ _ (0,0) f2];rfl
 have HC:=Lib.hid CELLS
 clear T2 hR2 hnl C CELLS
 go_wp2
 go_step3
 go_wp2
 go_loopg [8,9,10,11] ((nl+1)*(np+2)+np) (fun g s8 s9 s10 s11 wr=> ∃(b:Int) (f i k:Nat),s8= .int .i64 b∧s9= .int .i64 f∧s10= .int .i64 i∧s11= .int .i64 k∧(nl+1-f)*(np+2)+(np-k)≤g∧-1≤b∧b<np+1∧Hid (At eqv P L b f i k∧Ux.Touch (fun _=>False) w2 wr))
 case atStart=>
  exact ⟨-1,0,0,0,rfl,rfl,rfl,rfl,by simp,by omega,by omega,Lib.hid ⟨Ux.Like.At.start P L,Ux.Touch.refl _ _⟩⟩
 case round=>
  obtain ⟨b,f,i,k,rfl,rfl,rfl,rfl,hg,hb1,hb2,HI⟩:=hrel
  have p0:(0:Int)≤f:=by omega
  have p1:(0:Int)≤i:=by omega
  have p2:(0:Int)≤k:=by omega
  have q1:i≤nl:=by have:=HI.out.1.1;have:=HT2.out.2.2.2;omega
  have q2:k≤np:=by have:=HI.out.1.2.1;have:=HH.out.2.2.2.2.2.2.2.2;omega
  have q3:f≤i:=HI.out.1.2.2.1
  obtain ⟨c0,d0,d1,d2,d3,d4⟩:=HC.out wr HI.out.2
  by_cases hi:i<nl
  ·have j1:(i:Int)<nl:=by omega
   have hm:np+2≤(nl+1-f)*(np+2):=Nat.le_mul_of_pos_left _ (by omega)
   obtain ⟨g',rfl⟩: ∃g',gk=g'+1:=⟨gk-1,by omega⟩
   obtain ⟨x,hx⟩: ∃x,L[i]? =some x:=⟨L[i]'(by have:=HT2.out.2.2.2;omega),List.getElem?_eq_getElem _⟩
   obtain ⟨gl,rfl,_,cl0⟩:=row_at HT2.out.2.2.1 (Ux.iv_get hx)
   have cl1:=HI.out.2.cell cl0 (fun f=>f)
   clear cl0
   cases hpk:P[k]? with
   |none=>
    have hkn:k=np:=by have:=List.getElem?_eq_none_iff.1 hpk;have:=HH.out.2.2.2.2.2.2.2.2;omega
    have j2: ¬((k:Int)<np):=by omega
    have HX:=Lib.hid (And.intro hx hpk)
    have hno: ∀c,P[k]? =some c→c≠-1∧hit eqv c x=false:=fun c hc=>by rw [hpk] at hc;cases hc
    have HN:=Lib.hid hno
    clear hno d0 d1 d2 d3 d4 cl1
    clear hpk
    go_upto_region 7 with (fail)
    refine Ux.wpr (fun _ w'=>w'.cell? ⟨B,0,none⟩=some (.slice ap np cp)) (.q [0,1] (.h false [2] (.q [3,4,5,6,8] (.h false [7] (.q [9] (.h false [10] (.q [11,12,14,16,19,20,21] (.h false [13,15,22] (.q [17] (.h false [18] (.e 23 true false (.q [24,25,26] (.line []))))))))))))) ?_;repeat ((with_reducible refine Ux.qg ?_);refine Ux.qu ?_)
    go_wp2_with (fail)
    repeat ((with_reducible refine Ux.qg ?_);refine Ux.qu ?_)
    by_cases hbn:b<0
    ·have hR:R=false:=by rw [←HH.out.2.2.2.2.2.1];exact HI.out.1.no HX.out.1 (HN.out) hbn
     have HR:=Lib.hid hR
     clear hR
     go_wp2
     first|rw [Exit.noGoto_ret]|skip
     go_ret
     refine ⟨by rw [HR.out];rfl,?_⟩
     exact HT2.out.2.1.trans HI.out.2.drew fun _ _ f=>f
    ·have hat:=HI.out.1.again HX.out.1 (HN.out) hbn
     have HA2:=Lib.hid hat
     clear hat
     go_wp2
     go_roundg g'
     case measure=>omega
     case rel=>
      refine ⟨b,f+1,f+1,(b+1).toNat,rfl,rfl,rfl,by rw [Int.toNat_of_nonneg (by omega)],?_,by omega,hb2,Lib.hid ⟨HA2.out,HI.out.2.drew⟩⟩
      have e:nl+1-f=(nl+1-(f+1))+1:=by omega
      rw [e,Nat.add_mul,Nat.one_mul] at hg
      omega
   |some pk=>
    have hkn:k<np:=by have:=(List.getElem?_eq_some_iff.1 hpk).1;have:=HH.out.2.2.2.2.2.2.2.2;omega
    have j2:(k:Int)<np:=by omega
    obtain ⟨gp,rfl,_,cp0⟩:=row_at HH.out.2.2.2.1 (Ux.iv_get hpk)
    have cp1:=(HT2.out.2.1.trans HI.out.2 fun _ _ f=>f).cell cp0 (fun f=>f)
    clear cp0
    by_cases h1:pk= -1
    ·subst h1
     have hat:=HI.out.1.star hpk
     have HA2:=Lib.hid hat
     have hm2:(nl+1-i)*(np+2)≤(nl+1-f)*(np+2):=Nat.mul_le_mul_right _ (by omega)
     clear hat hx hpk d0 d1 d2 d3 d4 cl1
     go_wp2
     go_roundg g'
     case measure=>omega
     case rel=>exact ⟨k,i,i,k+1,rfl,rfl,rfl,rfl,by omega,by omega,by omega,Lib.hid ⟨HA2.out,HI.out.2⟩⟩
    ·have z1:(pk== -1)=false:=by simpa using h1
     by_cases h2:pk= -2
     ·subst h2
      have HX:=Lib.hid (And.intro hx hpk)
      clear d0 d1 d2 d3 d4 cl1 hx hpk
      go_upto_region 7 with (fail)
      refine Ux.wpr (fun _ w'=>w'.cell? ⟨B,0,none⟩=some (.slice (some ⟨gp,0,none⟩) np cp)∧w'.cell? ⟨gp,k,none⟩=some (.int .i64 (-2))) (.q [0,1] (.h false [2] (.q [3,4,5,6,8] (.h false [7] (.q [9] (.h false [10] (.q [11,12,14,16,19,20,21] (.h false [13,15,22] (.q [17] (.h false [18] (.e 23 true false (.q [24,25,26] (.line []))))))))))))) ?_;repeat ((with_reducible refine Ux.qg ?_);refine Ux.qu ?_)
      go_wp2_with (fail)
      refine ⟨⟨c0,cp1⟩,?_⟩
      repeat ((with_reducible refine Ux.qg ?_);refine Ux.qu ?_)
      have hat:=HI.out.1.sign HX.out.2 HX.out.1 h1 (by unfold hit;simp)
      have HA2:=Lib.hid hat
      clear hat
      go_wp2
      go_roundg g'
      case measure=>omega
      case rel=>exact ⟨b,f,i+1,k+1,rfl,rfl,rfl,rfl,by omega,hb1,hb2,Lib.hid ⟨HA2.out,HI.out.2.drew⟩⟩
     ·have z2:(pk== -2)=false:=by simpa using h2
      have hxm:x∈L:=List.mem_of_getElem? hx
      have hpm:pk∈P:=List.mem_of_getElem? hpk
      have CA:=Lib.hid (HH.out.2.2.2.2.1 pk x wr.drew hpm h1 h2 hxm ((HT2.out.2.1.trans HI.out.2 fun _ _ f=>f).drew))
      have HX:=Lib.hid (And.intro hx hpk)
      clear hx hpk hxm hpm
      cases hev:eqv pk x with
      |true=>
       rw [hev] at CA
       go_upto_region 7 with (fail)
       refine Ux.wpr (fun _ w'=>w'.cell? ⟨B,0,none⟩=some (.slice (some ⟨gp,0,none⟩) np cp)∧w'.cell? ⟨gp,k,none⟩=some (.int .i64 pk)∧w'.cell? ⟨gl,i,none⟩=some (.int .i64 x)∧w'.cell? ⟨B+1,0,none⟩=some (.int .i64 kd)∧w'.cell? ⟨B+1,1,none⟩=some (.int .i64 lv)∧w'.cell? ⟨B+1,2,none⟩=some (.bool sh)∧w'.cell? ⟨B+1,3,none⟩=some (.bool bk)∧w'.cell? ⟨B+1,4,none⟩=some (.pointer tb)) (.q [0,1] (.h false [2] (.q [3,4,5,6,8] (.h false [7] (.q [9] (.h false [10] (.q [11,12,14,16,19,20,21] (.h false [13,15,22] (.q [17] (.h false [18] (.e 23 true false (.q [24,25,26] (.line []))))))))))))) ?_;repeat ((with_reducible refine Ux.qg ?_);refine Ux.qu ?_)
       go_wp2_with (go_at_call 78;fail)
       refine CA.out.mono ?_
       rintro e w5 ⟨rfl,T5⟩
       have T25:=HI.out.2.trans (Ux.Touch.of_drew T5) fun _ _ f=>f
       obtain ⟨k0,k1,k2,k3,k4,k5⟩:=HC.out w5 T25
       have k6:=(Ux.Touch.of_drew T5).cell cp1 (fun f=>f)
       have k7:=(Ux.Touch.of_drew T5).cell cl1 (fun f=>f)
       have HS5:=Lib.hid (And.intro k0 (And.intro k6 (And.intro k7 (And.intro k1 (And.intro k2 (And.intro k3 (And.intro k4 k5)))))))
       have HT5:=Lib.hid T25
       clear T5 T25 k0 k1 k2 k3 k4 k5 k6 k7
       go_wp2_with (fail)
       refine ⟨HS5.out,?_⟩
       repeat ((with_reducible refine Ux.qg ?_);refine Ux.qu ?_)
       have hat:=HI.out.1.sign HX.out.2 HX.out.1 h1 (by unfold hit;rw [hev];simp)
       have HA2:=Lib.hid hat
       clear hat
       go_wp2
       go_roundg g'
       case measure=>omega
       case rel=>exact ⟨b,f,i+1,k+1,rfl,rfl,rfl,rfl,by omega,hb1,hb2,Lib.hid ⟨HA2.out,HT5.out⟩⟩
      |false=>
       rw [hev] at CA
       have hno: ∀c,P[k]? =some c→c≠-1∧hit eqv c x=false:=fun c hc=>by
        rw [HX.out.2] at hc
        cases hc
        exact ⟨h1,by unfold hit;rw [hev,decide_eq_false h2];rfl⟩
       have HN:=Lib.hid hno
       clear hno
       go_upto_region 7 with (fail)
       refine Ux.wpr (fun _ w'=>w'.cell? ⟨B,0,none⟩=some (.slice (some ⟨gp,0,none⟩) np cp)∧w'.cell? ⟨gp,k,none⟩=some (.int .i64 pk)∧w'.cell? ⟨gl,i,none⟩=some (.int .i64 x)∧w'.cell? ⟨B+1,0,none⟩=some (.int .i64 kd)∧w'.cell? ⟨B+1,1,none⟩=some (.int .i64 lv)∧w'.cell? ⟨B+1,2,none⟩=some (.bool sh)∧w'.cell? ⟨B+1,3,none⟩=some (.bool bk)∧w'.cell? ⟨B+1,4,none⟩=some (.pointer tb)) (.q [0,1] (.h false [2] (.q [3,4,5,6,8] (.h false [7] (.q [9] (.h false [10] (.q [11,12,14,16,19,20,21] (.h false [13,15,22] (.q [17] (.h false [18] (.e 23 true false (.q [24,25,26] (.line []))))))))))))) ?_;repeat ((with_reducible refine Ux.qg ?_);refine Ux.qu ?_)
       go_wp2_with (go_at_call 78;fail)
       refine CA.out.mono ?_
       rintro e w5 ⟨rfl,T5⟩
       have T25:=HI.out.2.trans (Ux.Touch.of_drew T5) fun _ _ f=>f
       obtain ⟨k0,k1,k2,k3,k4,k5⟩:=HC.out w5 T25
       have k6:=(Ux.Touch.of_drew T5).cell cp1 (fun f=>f)
       have k7:=(Ux.Touch.of_drew T5).cell cl1 (fun f=>f)
       have HS5:=Lib.hid (And.intro k0 (And.intro k6 (And.intro k7 (And.intro k1 (And.intro k2 (And.intro k3 (And.intro k4 k5)))))))
       have HT5:=Lib.hid T25
       clear T5 T25 k0 k1 k2 k3 k4 k5 k6 k7
       go_wp2_with (fail)
       refine ⟨HS5.out,?_⟩
       repeat ((with_reducible refine Ux.qg ?_);refine Ux.qu ?_)
       by_cases hbn:b<0
       ·have hR:R=false:=by rw [←HH.out.2.2.2.2.2.1];exact HI.out.1.no HX.out.1 (HN.out) hbn
        have HR:=Lib.hid hR
        clear hR
        go_wp2
        first|rw [Exit.noGoto_ret]|skip
        go_ret
        refine ⟨by rw [HR.out];rfl,?_⟩
        exact HT2.out.2.1.trans HT5.out fun _ _ f=>f
       ·have hat:=HI.out.1.again HX.out.1 (HN.out) hbn
        have HA2:=Lib.hid hat
        clear hat
        go_wp2
        go_roundg g'
        case measure=>omega
        case rel=>
         refine ⟨b,f+1,f+1,(b+1).toNat,rfl,rfl,rfl,by rw [Int.toNat_of_nonneg (by omega)],?_,by omega,hb2,Lib.hid ⟨HA2.out,HT5.out⟩⟩
         have e:nl+1-f=(nl+1-(f+1))+1:=by omega
         rw [e,Nat.add_mul,Nat.one_mul] at hg
         omega
  ·obtain rfl:i=nl:=by omega
   have j1: ¬(i:Int)<i:=by omega
   have hd:=HI.out.1
   have hnl:=HT2.out.2.2.2
   subst hnl
   have hd2:=hd.done
   rw [HH.out.2.2.2.2.2.1] at hd2
   have HD:=Lib.hid hd2
   clear hd hd2 c0 d0 d1 d2 d3 d4
   go_wp2
   go_loopg [11] (np-k) (fun g s11 wr2=> ∃k2:Nat,s11= .int .i64 k2∧k2≤np∧np-k2≤g∧Hid (R=(P.drop k2).all (fun c=>decide (c= -1))∧Ux.Touch (fun _=>False) w2 wr2))
   case atStart=>exact ⟨k,rfl,q2,Nat.le_refl _,Lib.hid ⟨HD.out,HI.out.2⟩⟩
   case round=>
    obtain ⟨k2,rfl,hk2,hkg,HJ⟩:=hrel
    have p5:(0:Int)≤k2:=by omega
    obtain ⟨c0,_⟩:=HC.out _ HJ.out.2
    cases hpk:P[k2]? with
    |none=>
     have hkn:k2=np:=by have:=List.getElem?_eq_none_iff.1 hpk;have:=HH.out.2.2.2.2.2.2.2.2;omega
     subst hkn
     have j2: ¬((k2:Int)<k2):=by omega
     have hR:R=true:=by rw [HJ.out.1,List.drop_eq_nil_of_le (List.getElem?_eq_none_iff.1 hpk)];rfl
     have HR:=Lib.hid hR
     clear hR hpk
     go_wp2
     first|rw [Exit.noGoto_ret]|skip
     go_ret
     refine ⟨by rw [HR.out];rfl,?_⟩
     exact HT2.out.2.1.trans HJ.out.2 fun _ _ f=>f
    |some pk=>
     have hkn:k2<np:=by have:=(List.getElem?_eq_some_iff.1 hpk).1;have:=HH.out.2.2.2.2.2.2.2.2;omega
     have j2:(k2:Int)<np:=by omega
     obtain ⟨gp,rfl,_,cp0⟩:=row_at HH.out.2.2.2.1 (Ux.iv_get hpk)
     have cp1:=(HT2.out.2.1.trans HJ.out.2 fun _ _ f=>f).cell cp0 (fun f=>f)
     have hRk:=HJ.out.1
     rw [Ux.Like.drop_cons hpk,List.all_cons] at hRk
     clear cp0 hpk
     by_cases h1:pk= -1
     ·subst h1
      have hR2:R=(P.drop (k2+1)).all (fun c=>decide (c= -1)):=by rw [hRk];simp
      have HR:=Lib.hid hR2
      obtain ⟨g',rfl⟩: ∃g',gk=g'+1:=⟨gk-1,by omega⟩
      clear hRk hR2
      go_wp2
      go_roundg g'
      case measure=>omega
      case rel=>exact ⟨k2+1,rfl,by omega,by omega,Lib.hid ⟨HR.out,HJ.out.2⟩⟩
     ·have z1:(pk== -1)=false:=by simpa using h1
      have z2:((k2:Int)==np)=false:=by simp;omega
      have hR:R=false:=by rw [hRk];simp [h1]
      have HR:=Lib.hid hR
      clear hR hRk
      go_wp2
      first|rw [Exit.noGoto_ret]|skip
      go_ret
      refine ⟨by rw [HR.out];rfl,?_⟩
      exact HT2.out.2.1.trans HJ.out.2 fun _ _ f=>f
end Go.Proofs.YtikmdhhbamggfaaGreatDoor
namespace Go.Proofs.YtikmdhhbamggfaaGreatDoor
open Go.RowKit
def rcollV (k:Int):Value:= .agg #[.int .i64 k,.int .i64 0,.bool false,.bool false,.slice none 0 0]
set_option maxHeartbeats 2000000 in
set_option maxRecDepth 100000 in
theorem lawMake_ (k lv:Int) (hk:k=1∨k=2) (sh bk:Bool) (t:ByteArray) (w:World):
 Calls Tryz.prog 16 #[.int .i64 k,.int .i64 lv,.bool sh,.bool bk,.string t] w fun e w'=>e= .returned (.tuple #[collV k,rcollV k,.bool true])∧Ux.Touch (fun _=>False) w w':=by
 unfold collV rcollV
 rcases hk with rfl|rfl
 all_goals
  go_enter Tryz.func16,Tryz.ntmps16
  go_wp2
  go_returns
  exact ⟨rfl,((Ux.Touch.refl _ w).alloc _).alloc _⟩
end Go.Proofs.YtikmdhhbamggfaaGreatDoor
namespace Go.Proofs.YtikmdhhbamggfaaGreatDoor
open Go.RowKit
open Ux (Row iv sv bv)
open Ux.Sign (signs)
open Ux.Like (mat pat elt)
theorem matchK (k:Int) (hk:k=1∨k=2) (P:List Int) (pv:Value) (lo:Nat) (s:ByteArray) (w:World) (hs:s.size≤1000000) (hT:Tabs w) (hP:Row w lo 3 pv (iv P)) (hp:P.length≤1000000) (hb: ∀a∈P,-3<a∧a<1114368):
 Calls Tryz.prog 36 #[.agg #[pv],collV k,.string s] w fun e w'=>e= .returned (.bool (mat (eqvK k) P (sv (signs s.data.toList))))∧Ux.Touch (fun _=>False) w w':=
 match_ (eqvK k) k 0 false false none P pv lo s w hs hT hP hp fun a b w' ha _ _ hbb _=>alike_ k hk a b (by have:=hb a ha;omega) (by
  unfold sv at hbb
  obtain ⟨c,hc,rfl⟩:=List.mem_map.1 hbb
  have:=signs_lt _ c hc
  omega) w'
theorem lit_acA:pat none (signs (⟨#[97,37,95,99]⟩:ByteArray).data.toList)=some [97,-1,-2,99]:=by
 rw [Ux.Sign.signs_ascii _ (by decide)]
 rw [Ux.Like.pat_none]
 decide
theorem lit_emp:only (⟨#[]⟩:ByteArray).data.toList=none:=by
 unfold only
 have:signs (⟨#[]⟩:ByteArray).data.toList= []:=by unfold signs;rfl
 rw [this]
 rfl
theorem lit_m1:mat (eqvK 1) [97,-1,-2,99] (sv (signs (⟨#[97,98,98,99]⟩:ByteArray).data.toList))=true:=by
 rw [Ux.Sign.signs_ascii _ (by decide)]
 decide
theorem lit_m2:mat (eqvK 1) [97,-1,-2,99] (sv (signs (⟨#[97,99]⟩:ByteArray).data.toList))=false:=by
 rw [Ux.Sign.signs_ascii _ (by decide)]
 decide
theorem make0_ (p:ByteArray) (w:World) (hp:p.size≤1000000) (hT:Tabs w):Calls Tryz.prog 32 #[.string p,.string ⟨#[]⟩] w fun e w'=> ∃a n c,e= .returned (.tuple #[.agg #[.slice a n c],.int .i64 0])∧Row w' w.heap.size 3 (.slice a n c) (iv ((signs p.data.toList).map elt))∧Ux.Touch (fun _=>False) w w':=by
 refine (make_ p ⟨#[]⟩ w hp hT (by decide) none lit_emp _ rfl).mono ?_
 rintro e w' ⟨x,rfl,hx,ht⟩
 unfold MakeSays at hx
 rw [if_neg (fun h=>h.1 rfl),Ux.Like.pat_none] at hx
 obtain ⟨v,rfl,hR⟩:=hx
 obtain ⟨a,c,rfl,_⟩:=hR.is
 exact ⟨a,_,c,rfl,hR,ht⟩
theorem collCells {w:World} {B:Nat} {k:Int} (h:w.heap[B]? =some (.cells #[.int .i64 k,.int .i64 0,.bool false,.bool false,.pointer none] 25 (0,0))):
 w.cell? ⟨B,0,none⟩=some (.int .i64 k)∧w.cell? ⟨B,1,none⟩=some (.int .i64 0)∧w.cell? ⟨B,2,none⟩=some (.bool false)∧w.cell? ⟨B,3,none⟩=some (.bool false)∧w.cell? ⟨B,4,none⟩=some (.pointer none):=by
 refine ⟨?_,?_,?_,?_,?_⟩
 ·rw [cell_of_row w B 0 _ _ (0,0) h];rfl
 ·rw [cell_of_row w B 1 _ _ (0,0) h];rfl
 ·rw [cell_of_row w B 2 _ _ (0,0) h];rfl
 ·rw [cell_of_row w B 3 _ _ (0,0) h];rfl
 ·rw [cell_of_row w B 4 _ _ (0,0) h];rfl
set_option maxHeartbeats 4000000 in
set_option maxRecDepth 100000 in
theorem awake_ (w:World) (hT:Tabs w):Calls Tryz.prog 31 #[] w fun e w'=>e= .returned (.bool true)∧Ux.Touch (fun _=>False) w w':=by
 have CL:=Lib.hid (lawMake_ 1 0 (.inl rfl) false false ⟨#[]⟩ w)
 have CM:=Lib.hid fun w' (T:Ux.Touch (fun _=>False) w w')=>make0_ ⟨#[97,37,95,99]⟩ w' (by decide) (hT.touch T)
 have hpl:(signs (⟨#[97,37,95,99]⟩:ByteArray).data.toList).map elt= [97,-1,-2,99]:=by
  have:=lit_acA
  rw [Ux.Like.pat_none] at this
  exact Option.some.inj this
 rw [hpl] at CM
 have CK:Hid (∀(pv:Value) (lo:Nat) (s:ByteArray) (w':World),s.size≤1000000→Ux.Touch (fun _=>False) w w'→Row w' lo 3 pv (iv [97,-1,-2,99])→Calls Tryz.prog 36 #[.agg #[pv],collV 1,.string s] w' fun e w''=>e= .returned (.bool (mat (eqvK 1) [97,-1,-2,99] (sv (signs s.data.toList))))∧Ux.Touch (fun _=>False) w' w''):=
  Lib.hid fun pv lo s w' hs T hR=>matchK 1 (.inl rfl) _ pv lo s w' hs (hT.touch T) hR (by decide) (by decide)
 unfold collV at CL CK
 unfold rcollV at CL
 clear hT hpl
 go_enter Tryz.func31,Tryz.ntmps31
 go_wp2_with (go_at_call 16;fail)
 refine CL.out.mono ?_
 rintro e w1 ⟨rfl,T1⟩
 have H1:=Lib.hid T1
 clear T1
 go_wp2_with (go_at_call 32;fail)
 refine (CM.out _ ((H1.out.alloc _).alloc _)).mono ?_
 rintro e w2 ⟨a,n,c,rfl,hR,T2⟩
 obtain ⟨B,hB⟩: ∃B,w1.heap.size=B:=⟨_,rfl⟩
 have hc:w2.heap[B]? =some (.cells #[.int .i64 1,.int .i64 0,.bool false,.bool false,.pointer none] 25 (0,0)):=by
  rw [←hB]
  exact T2.heap (((Ux.Touch.refl (fun _=>False) _).alloc _).heap (heap_alloc_new w1 _) (fun f=>f)) (fun f=>f)
 have TW2:=((H1.out.alloc _).alloc _).trans T2 fun _ _ f=>f
 obtain ⟨B2,hB2⟩: ∃B2,w2.heap.size=B2:=⟨_,rfl⟩
 obtain ⟨w3,hw3⟩: ∃w3,w2.alloc (.cells #[.slice a n c] 51)=w3:=⟨_,rfl⟩
 have T3:Ux.Touch (fun _=>False) w2 w3:=by rw [←hw3];exact (Ux.Touch.refl _ w2).alloc _
 have hp3:w3.heap[B2]? =some (.cells #[.slice a n c] 51 (0,0)):=by rw [←hw3,←hB2];exact heap_alloc_new w2 _
 have hc3:=T3.heap hc (fun f=>f)
 have TW3:=TW2.trans T3 fun _ _ f=>f
 obtain ⟨c0,c1,c2,c3,c4⟩:=collCells hc3
 have p0:w3.cell? ⟨B2,0,none⟩=some (.slice a n c):=by rw [cell_of_row w3 B2 0 _ _ (0,0) hp3];rfl
 have H3:=Lib.hid (And.intro (hR.touch0 T3) (And.intro TW3 (And.intro hp3 hc3)))
 clear hR T2 TW2 hc T3 hp3 hc3 TW3
 rw [hB]
 go_wp2_with (go_at_call 36;fail)
 have cm:=CK.out (.slice a n c) _ ⟨#[97,98,98,99]⟩ w3 (by decide) H3.out.2.1 H3.out.1
 rw [lit_m1] at cm
 refine cm.mono ?_
 rintro e w4 ⟨rfl,T4⟩
 have q0:=T4.cell p0 (fun f=>f)
 have d0:=T4.cell c0 (fun f=>f)
 have d1:=T4.cell c1 (fun f=>f)
 have d2:=T4.cell c2 (fun f=>f)
 have d3:=T4.cell c3 (fun f=>f)
 have d4:=T4.cell c4 (fun f=>f)
 have H4:=Lib.hid (And.intro (H3.out.1.touch0 T4) (H3.out.2.1.trans T4 fun _ _ f=>f))
 clear cm T4 p0 c0 c1 c2 c3 c4 H3 hw3
 go_wp2_with (go_at_call 36;fail)
 have cm:=CK.out (.slice a n c) _ ⟨#[97,99]⟩ w4 (by decide) H4.out.2 H4.out.1
 rw [lit_m2] at cm
 refine cm.mono ?_
 rintro e w5 ⟨rfl,T5⟩
 have H5:=Lib.hid (H4.out.2.trans T5 fun _ _ f=>f)
 clear cm T5
 go_wp2
 go_ret
 exact ⟨rfl,H5.out⟩
end Go.Proofs.YtikmdhhbamggfaaGreatDoor
