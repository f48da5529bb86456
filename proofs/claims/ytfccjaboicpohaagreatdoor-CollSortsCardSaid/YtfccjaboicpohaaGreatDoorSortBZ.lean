/- A part of the proof that the statement holds for every input that it names. No other condition. -/
import Derived.Test.YtfccjaboicpohaaGreatDoorSortAZ
set_option linter.unusedVariables false
set_option linter.unusedSimpArgs false
namespace Go.Proofs.YtfccjaboicpohaaGreatDoor
open Go.RowKit
open Ux (Row swp StEq Srt Out Up Dn kLt slt Rot RotGood)
set_option maxHeartbeats 32000000 in
set_option maxRecDepth 100000 in
theorem symCA_ (g N c:Nat) (cs:Value) (K:ByteArray→ByteArray) (w0:World) (hN:N≤1000000) (hC:CmpOk w0 cs K) (hg:w0.heap.size≤g) (D:Nat) (ih:SymAll g N c cs K w0 D) (a d b:Nat) (l:List ByteArray) (w:World) (hD:b-a≤D+1) (had:a<d) (hdb:d<b) (hb:b≤N) (h:TRow w g N c l) (hT:Ux.Touch (fun _=>False) w0 w) (hs: ∀x∈l,x.size≤1000000) (sl:Srt K l a d) (sr:Srt K l d b)
 (hA: ¬a+1=d) (hB: ¬d+1=b) (hmd0:(a+b)/2<d):
 Calls Tryz.prog 168 #[.slice (some ⟨g,0,none⟩) N c,.int .i64 a,.int .i64 d,.int .i64 b,.func (.func 29) #[cs] #[]] w (SymPost K g N c w l a b):=by
 unfold SymAll at ih
 have IH:=Lib.hid ih
 clear ih
 have hNl:=h.1
 have N0:(N:Int)≤1000000:=by omega
 have b0:(b:Int)≤N:=by omega
 have d0:(d:Int)<N:=by omega
 have a0:(0:Int)≤a:=by omega
 obtain ⟨z,hz⟩: ∃z:Nat,d-a=z:=⟨_,rfl⟩
 have zI:(d:Int)-a=z:=by omega
 have z1:((z:Int)==1)=false:=beq_false_of_ne (by omega)
 obtain ⟨y,hy⟩: ∃y:Nat,b-d=y:=⟨_,rfl⟩
 have yI:(b:Int)-d=y:=by omega
 have y1:((y:Int)==1)=false:=beq_false_of_ne (by omega)
 obtain ⟨s,mid,sI,hs1,hu,mI,hmid,m0,m1⟩:=mid_is a b (by omega) (by omega)
 obtain ⟨n,hn⟩: ∃n,mid+d=n:=⟨_,rfl⟩
 have nI:(mid:Int)+d=n:=by omega
 obtain ⟨p,hp⟩: ∃p,n-1=p:=⟨_,rfl⟩
 have pI:(n:Int)-1=p:=by omega
 have nB:(n:Int)≤2000000:=by omega
 have n0:(0:Int)≤n:=by omega
 have p0:(0:Int)≤p:=by omega
 have pB:(p:Int)≤2000000:=by omega
 have bB:(b:Int)≤1000000:=by omega
 have dB:(d:Int)≤1000000:=by omega
 have HH:=Lib.hid (And.intro h (And.intro hs (And.intro hN (And.intro hb (And.intro sl (And.intro sr (And.intro hT hg)))))))
 have HC:=Lib.hid fun x y W (T:Ux.Touch (fun k=>k=g) w W)=>hC x y W (hT.trans T fun k hk e=>by omega)
 have HAB:=Lib.hid (And.intro had (And.intro hdb (And.intro hNl (And.intro hmid (And.intro hn (And.intro hp hD))))))
 have HRT:=Lib.hid fun (X U V Y:List ByteArray) (a m b:Nat) W h h1 h2 h3 h4 h5=>rot_ g N c (.func (.func 29) #[cs] #[]) X U V Y a m b W h hN h1 h2 h3 h4 h5
 have hmd:mid<d:=by omega
 clear hmd0
 clear h hC hg hT hs hN had hdb hb sl sr hNl hz hy hs1 hmid hn hp hA hB hD
 ·have q1:(d:Int)>mid:=by omega
  obtain ⟨s0,hs0⟩: ∃s0,n-b=s0:=⟨_,rfl⟩
  have s0I:(n:Int)-b=s0:=by have:=HAB.out;omega
  have s00:(0:Int)≤s0:=by omega
  have s0B:(s0:Int)≤2000000:=by omega
  have hsr:mid<d∧s0=mid+d-b:=⟨by omega,by have:=HAB.out;omega⟩
  clear hmd hs0
  have HSR:=Lib.hid hsr
  have hs0r0:s0≤mid∧mid≤N∧mid≤d∧mid≤mid:=by have:=HAB.out;have:=HH.out.2.2.2.1;omega
  have HSZ:=Lib.hid hs0r0
  clear hsr hs0r0
  go_enter Tryz.func168,Tryz.ntmps168
  go_wp2_with (fail)
  go_loopg [20,21] mid (fun gk s20 s21 wr=> ∃i j:Nat,s20= .int .i64 i∧s21= .int .i64 j∧s0≤i∧i≤j∧j≤mid∧j≤i+gk∧Hid ((j<mid→∃x y,l[j]? =some x∧l[mid+d-1-j]? =some y∧kLt K y x=true)∧(s0<i→∃x y,l[i-1]? =some x∧l[mid+d-1-(i-1)]? =some y∧kLt K y x=false)∧Ux.Touch (fun _=>False) w wr))
  case atStart=>exact ⟨s0,mid,rfl,rfl,Nat.le_refl _,HSZ.out.1,Nat.le_refl _,by omega,Lib.hid ⟨fun h=>absurd h (by omega),fun h=>absurd h (by omega),Ux.Touch.refl _ _⟩⟩
  case round=>
   obtain ⟨i,j,rfl,rfl,hi,hij,hj,hig,HI⟩:=hrel
   by_cases hlt:i<j
   ·obtain ⟨g',rfl⟩: ∃g',gk=g'+1:=⟨gk-1,by omega⟩
    have i1:(i:Int)<j:=by omega
    have hjN:j≤1000000:=by have:=HH.out.2.2.1;have:=HSZ.out;omega
    obtain ⟨s',e,s'I,hs',hu',eI,he,e0,e1⟩:=mid_is i j (by omega) hjN
    have hel:i≤e∧e<j:=by omega
    have heN:e<mid:=by omega
    obtain ⟨q,hq⟩: ∃q,p-e=q:=⟨_,rfl⟩
    have hab:=HAB.out
    have hszz:=HSZ.out
    have hss:(mid<d∧s0=mid+d-b∧mid=mid)∨(d≤mid∧s0=a∧mid=d):= .inl ⟨HSR.out.1,HSR.out.2,rfl⟩
    have hbN:=HH.out.2.2.2.1
    have hqb:q<b∧e≤p:=by omega
    have qI:(p:Int)-e=q:=by omega
    have eN:(e:Int)<N:=by omega
    have qN:(q:Int)<N:=by omega
    have q0:(0:Int)≤q:=by omega
    obtain ⟨x,hx⟩:=get_lt (l:=l) (i:=e) (by omega)
    obtain ⟨y',hy'⟩:=get_lt (l:=l) (i:=q) (by omega)
    have hR:=HH.out.1.touch HI.out.2.2 (fun f=>f)
    have c1:=hR.cell hx
    have c2:=hR.cell hy'
    have HW:=Lib.hid fun W (T:Ux.Touch (fun _=>False) w W)=>HC.out y' x W (T.mono fun _ _ f=>f.elim) (HH.out.2.1 y' (List.mem_of_getElem? hy')) (HH.out.2.1 x (List.mem_of_getElem? hx))
    have hqe:mid+d-1-e=q:=by omega
    have HX:=Lib.hid (And.intro hi (And.intro hij (And.intro hj (And.intro hig (And.intro hel (And.intro hx (And.intro hy' (And.intro hqe heN))))))))
    clear hi hij hj hig hlt hjN hs' he hel hx hR hab hszz hss hbN hqb hq heN hy' hqe
    cases hk:kLt K y' x with
    |false=>
     obtain ⟨r,hr⟩: ∃r,cmpStr (K y') (K x)=r:=⟨_,rfl⟩
     have r1:decide (r<0)=false:=decide_eq_false (by rw [←hr];exact cmp_ge hk)
     rw [hr] at HW
     have HK:=Lib.hid hk
     clear hk hr
     go_upto_region 35 with (fail)
     refine Ux.wpr (fun _ w'=>w'.cell? ⟨g,e,none⟩=some (.string x)∧w'.cell? ⟨g,q,none⟩=some (.string y')) (.q [0,1,2,3,4,5,7,8,9] (.h false [6,10] (.e 11 false false (.q [12,13] (.line []))))) ?_;repeat ((with_reducible refine Ux.qg ?_);refine Ux.qu ?_)
     go_wp2_with (go_at_call 29;fail)
     refine (HW.out _ (HI.out.2.2.trans (Ux.Touch.refl (fun _=>False) wr).drew fun _ _ f=>f)).mono ?_
     rintro z' w4 ⟨rfl,T4⟩
     have H4:=Lib.hid (HI.out.2.2.trans ((Ux.Touch.refl (fun _=>False) wr).drew.trans T4 fun _ _ f=>f) fun _ _ f=>f)
     clear T4 c1 c2
     go_wp2_with (fail)
     repeat ((with_reducible refine Ux.qg ?_);refine Ux.qu ?_)
     go_wp2
     go_roundg g'
     case measure=>have:=HX.out;omega
     case rel=>
      refine ⟨e+1,j,rfl,rfl,?_,?_,?_,?_,Lib.hid ⟨HI.out.1,fun _=>⟨x,y',?_,?_,HK.out⟩,H4.out⟩⟩
      ·have:=HX.out;omega
      ·have:=HX.out;omega
      ·have:=HX.out;omega
      ·have:=HX.out;omega
      ·exact HX.out.2.2.2.2.2.1
      ·rw [Nat.add_sub_cancel,HX.out.2.2.2.2.2.2.2.1];exact HX.out.2.2.2.2.2.2.1
    |true=>
     obtain ⟨r,hr⟩: ∃r,cmpStr (K y') (K x)=r:=⟨_,rfl⟩
     have r1:decide (r<0)=true:=decide_eq_true (by rw [←hr];exact cmp_lt hk)
     rw [hr] at HW
     have HK:=Lib.hid hk
     clear hk hr
     go_upto_region 35 with (fail)
     refine Ux.wpr (fun _ w'=>w'.cell? ⟨g,e,none⟩=some (.string x)∧w'.cell? ⟨g,q,none⟩=some (.string y')) (.q [0,1,2,3,4,5,7,8,9] (.h false [6,10] (.e 11 false false (.q [12,13] (.line []))))) ?_;repeat ((with_reducible refine Ux.qg ?_);refine Ux.qu ?_)
     go_wp2_with (go_at_call 29;fail)
     refine (HW.out _ (HI.out.2.2.trans (Ux.Touch.refl (fun _=>False) wr).drew fun _ _ f=>f)).mono ?_
     rintro z' w4 ⟨rfl,T4⟩
     have H4:=Lib.hid (HI.out.2.2.trans ((Ux.Touch.refl (fun _=>False) wr).drew.trans T4 fun _ _ f=>f) fun _ _ f=>f)
     clear T4 c1 c2
     go_wp2_with (fail)
     repeat ((with_reducible refine Ux.qg ?_);refine Ux.qu ?_)
     go_wp2
     go_roundg g'
     case measure=>have:=HX.out;omega
     case rel=>
      refine ⟨i,e,rfl,rfl,?_,?_,?_,?_,Lib.hid ⟨fun _=>⟨x,y',?_,?_,HK.out⟩,HI.out.2.1,H4.out⟩⟩
      ·have:=HX.out;omega
      ·have:=HX.out;omega
      ·have:=HX.out;omega
      ·have:=HX.out;omega
      ·exact HX.out.2.2.2.2.2.1
      ·rw [HX.out.2.2.2.2.2.2.2.1];exact HX.out.2.2.2.2.2.2.1
   ·obtain rfl:i=j:=by omega
    have i1: ¬(i:Int)<i:=by omega
    obtain ⟨e,he⟩: ∃e,n-i=e:=⟨_,rfl⟩
    have hab:=HAB.out
    have hszz:=HSZ.out
    have hss:(mid<d∧s0=mid+d-b∧mid=mid)∨(d≤mid∧s0=a∧mid=d):= .inl ⟨HSR.out.1,HSR.out.2,rfl⟩
    have eI:(n:Int)-i=e:=by omega
    have hf:=Ux.sym_found (K:=K) (l:=l) (s:=i) (e:=e) hab.1 hab.2.1 hab.2.2.2.1 hss hi hj (by omega) (by have:=HH.out.2.2.2.1;omega) HH.out.2.2.2.2.1 HH.out.2.2.2.2.2.1 HI.out.1 HI.out.2.1
    obtain ⟨f1,f2,f3,f4,f5,f6,f7,f8,f9,fi,fii⟩:=hf
    have HF:=Lib.hid (And.intro f1 (And.intro f2 (And.intro f3 (And.intro f4 (And.intro f5 (And.intro f6 (And.intro f7 (And.intro f8 (And.intro f9 (And.intro fi fii))))))))))
    clear hi hij hj hig hlt he hab hszz hss f1 f2 f3 f4 f5 f6 f7 f8 f9 fi fii
    have hcx:(((i:Int)<d)∧((d:Int)<e))∨(¬((i:Int)<d))∨(((i:Int)<d)∧¬((d:Int)<e)):=by omega
    rcases hcx with ⟨q1,q2⟩|q1|⟨q1,q2⟩
    ·obtain ⟨X,U,V,Y,e1,e2,e3,e4,e5,e6⟩:=rot_plain (K:=K) HF.out.2.1 HF.out.2.2.1 (by have:=HF.out.2.2.2.1;have:=HAB.out;have:=HH.out.2.2.2.1;omega) HF.out.2.2.2.2.2.2.2.2.2.1
     have hG:=e6.good (K:=K) (by have:=HAB.out;have:=HH.out.2.2.2.1;omega) HF.out.1 HF.out.2.1 HF.out.2.2.1 HF.out.2.2.2.1 HF.out.2.2.2.2.2.2.2.2.1 HH.out.2.2.2.2.1 HH.out.2.2.2.2.2.1 HF.out.2.2.2.2.2.2.2.2.2.1 HF.out.2.2.2.2.2.2.2.2.2.2
     have hrw:=HH.out.1.touch HI.out.2.2 (fun f=>f)
     rw [e1] at hrw
     have HQ:=Lib.hid (And.intro hrw (And.intro e2 (And.intro e3 e4)))
     obtain ⟨t,ht⟩: ∃t,X++(V++(U++Y))=t:=⟨_,rfl⟩
     have HRR:=Lib.hid fun W h=>HRT.out X U V Y i d e W h e2 e3 e4 (by omega) (by omega)
     rw [ht] at e5 hG HRR
     have HT1:=Lib.hid (And.intro e5 hG)
     clear e1 e2 e3 e4 e5 e6 hG hrw ht
     go_wp2_with (go_at_call 209;fail)
     refine (HRR.out _ HQ.out.1).mono ?_
     rintro z5 w5 ⟨rfl,hR5,T5⟩
     have H5:=Lib.hid (And.intro hR5 ((HI.out.2.2.mono fun _ _ f=>f.elim:Ux.Touch (fun k=>k=g) w wr).trans T5 fun _ _ h=>h))
     clear hR5 T5
     have hcl:(((a:Int)<i)∧((i:Int)<mid))∨(¬((a:Int)<i))∨(((a:Int)<i)∧¬((i:Int)<mid)):=by omega
     rcases hcl with ⟨q3,q4⟩|q3|⟨q3,q4⟩
     ·have HX:=Lib.hid (show mid-a≤D by have:=HAB.out;have:=HF.out;omega)
      go_wp2_with (go_at_call 168;fail)
      refine (IH.out a i mid t w5 HX.out (by omega) (by omega) (by have:=HF.out;have:=HH.out.2.2.2.1;omega) H5.out.1 (HH.out.2.2.2.2.2.2.1.trans H5.out.2 fun k hk e=>by have:=HH.out.2.2.2.2.2.2.2;omega) (fun x hx=>HH.out.2.1 x (HT1.out.1.mem hx)) HT1.out.2.s1 HT1.out.2.s2).mono ?_
      rintro z6 w6 ⟨rfl,t1,hA6,hS6⟩
      have H6:=Lib.hid (And.intro hA6 hS6)
      clear hA6 hS6
      have h3:Srt K t1 mid e:=HT1.out.2.s3.out H6.out.1.out (.inr (Nat.le_refl _))
      have h4:Srt K t1 e b:=HT1.out.2.s4.out H6.out.1.out (.inr HF.out.2.2.2.2.2.1)
      have H34:=Lib.hid (And.intro h3 h4)
      clear h3 h4
      have hcr:(((mid:Int)<e)∧((e:Int)<b))∨(¬((mid:Int)<e))∨(((mid:Int)<e)∧¬((e:Int)<b)):=by omega
      rcases hcr with ⟨q5,q6⟩|q5|⟨q5,q6⟩
      ·have HY:=Lib.hid (show b-mid≤D by have:=HAB.out;have:=HF.out;omega)
       go_wp2_with (go_at_call 168;fail)
       all_goals
        refine (IH.out mid e b t1 w6 HY.out (by omega) (by omega) HH.out.2.2.2.1 H6.out.1.row (HH.out.2.2.2.2.2.2.1.trans (H5.out.2.trans H6.out.1.touch fun _ _ h=>h) fun k hk e=>by have:=HH.out.2.2.2.2.2.2.2;omega) (fun x hx=>HH.out.2.1 x (HT1.out.1.mem (H6.out.1.eq.mem hx))) H34.out.1 H34.out.2).mono ?_
        rintro z7 w7 ⟨rfl,t2,hA7,hS7⟩
        have H7:=Lib.hid (And.intro hA7 hS7)
        clear hA7 hS7
        go_wp2
        all_goals
         go_end0
         have hd:=Ux.sym_done HT1.out.1 HT1.out.2 ⟨HF.out.2.2.2.2.2.2.1,by have:=HF.out.2.2.2.2.2.2.2.1;omega⟩ H6.out.1.eq H6.out.1.out H6.out.2 H7.out.1.eq H7.out.1.out H7.out.2
         exact ⟨rfl,t2,⟨hd.1,hd.2.1,H7.out.1.row,((H5.out.2.trans H6.out.1.touch fun _ _ h=>h).trans H7.out.1.touch fun _ _ h=>h)⟩,hd.2.2⟩
      ·have HY:=Lib.hid (show Srt K t1 mid b from (show mid=e by have:=HF.out;omega)▸H34.out.2)
       go_wp2
       all_goals
        go_end0
        have hd:=Ux.sym_done HT1.out.1 HT1.out.2 ⟨HF.out.2.2.2.2.2.2.1,by have:=HF.out.2.2.2.2.2.2.2.1;omega⟩ H6.out.1.eq H6.out.1.out H6.out.2 (StEq.refl _) (Out.refl _ _ _) HY.out
        exact ⟨rfl,t1,⟨hd.1,hd.2.1,H6.out.1.row,(H5.out.2.trans H6.out.1.touch fun _ _ h=>h)⟩,hd.2.2⟩
      ·have HY:=Lib.hid (show Srt K t1 mid b from (show e=b by have:=HF.out;omega)▸H34.out.1)
       go_wp2
       all_goals
        go_end0
        have hd:=Ux.sym_done HT1.out.1 HT1.out.2 ⟨HF.out.2.2.2.2.2.2.1,by have:=HF.out.2.2.2.2.2.2.2.1;omega⟩ H6.out.1.eq H6.out.1.out H6.out.2 (StEq.refl _) (Out.refl _ _ _) HY.out
        exact ⟨rfl,t1,⟨hd.1,hd.2.1,H6.out.1.row,(H5.out.2.trans H6.out.1.touch fun _ _ h=>h)⟩,hd.2.2⟩
     ·have HX:=Lib.hid (show Srt K t a mid from (show i=a by have:=HF.out;omega)▸HT1.out.2.s2)
      have h3:Srt K t mid e:=HT1.out.2.s3.out (Out.refl _ a mid) (.inr (Nat.le_refl _))
      have h4:Srt K t e b:=HT1.out.2.s4.out (Out.refl _ a mid) (.inr HF.out.2.2.2.2.2.1)
      have H34:=Lib.hid (And.intro h3 h4)
      clear h3 h4
      have hcr:(((mid:Int)<e)∧((e:Int)<b))∨(¬((mid:Int)<e))∨(((mid:Int)<e)∧¬((e:Int)<b)):=by omega
      rcases hcr with ⟨q5,q6⟩|q5|⟨q5,q6⟩
      ·have HY:=Lib.hid (show b-mid≤D by have:=HAB.out;have:=HF.out;omega)
       go_wp2_with (go_at_call 168;fail)
       all_goals
        refine (IH.out mid e b t w5 HY.out (by omega) (by omega) HH.out.2.2.2.1 H5.out.1 (HH.out.2.2.2.2.2.2.1.trans H5.out.2 fun k hk e=>by have:=HH.out.2.2.2.2.2.2.2;omega) (fun x hx=>HH.out.2.1 x (HT1.out.1.mem ((StEq.refl (K:=K) _).mem hx))) H34.out.1 H34.out.2).mono ?_
        rintro z7 w7 ⟨rfl,t2,hA7,hS7⟩
        have H7:=Lib.hid (And.intro hA7 hS7)
        clear hA7 hS7
        go_wp2
        all_goals
         go_end0
         have hd:=Ux.sym_done HT1.out.1 HT1.out.2 ⟨HF.out.2.2.2.2.2.2.1,by have:=HF.out.2.2.2.2.2.2.2.1;omega⟩ (StEq.refl (K:=K) _) (Out.refl _ a mid) HX.out H7.out.1.eq H7.out.1.out H7.out.2
         exact ⟨rfl,t2,⟨hd.1,hd.2.1,H7.out.1.row,(H5.out.2.trans H7.out.1.touch fun _ _ h=>h)⟩,hd.2.2⟩
      ·have HY:=Lib.hid (show Srt K t mid b from (show mid=e by have:=HF.out;omega)▸H34.out.2)
       go_wp2
       all_goals
        go_end0
        have hd:=Ux.sym_done HT1.out.1 HT1.out.2 ⟨HF.out.2.2.2.2.2.2.1,by have:=HF.out.2.2.2.2.2.2.2.1;omega⟩ (StEq.refl (K:=K) _) (Out.refl _ a mid) HX.out (StEq.refl _) (Out.refl _ _ _) HY.out
        exact ⟨rfl,t,⟨hd.1,hd.2.1,H5.out.1,H5.out.2⟩,hd.2.2⟩
      ·have HY:=Lib.hid (show Srt K t mid b from (show e=b by have:=HF.out;omega)▸H34.out.1)
       go_wp2
       all_goals
        go_end0
        have hd:=Ux.sym_done HT1.out.1 HT1.out.2 ⟨HF.out.2.2.2.2.2.2.1,by have:=HF.out.2.2.2.2.2.2.2.1;omega⟩ (StEq.refl (K:=K) _) (Out.refl _ a mid) HX.out (StEq.refl _) (Out.refl _ _ _) HY.out
        exact ⟨rfl,t,⟨hd.1,hd.2.1,H5.out.1,H5.out.2⟩,hd.2.2⟩
     ·have HX:=Lib.hid (show Srt K t a mid from (show i=mid by have:=HF.out;omega)▸HT1.out.2.s1)
      have h3:Srt K t mid e:=HT1.out.2.s3.out (Out.refl _ a mid) (.inr (Nat.le_refl _))
      have h4:Srt K t e b:=HT1.out.2.s4.out (Out.refl _ a mid) (.inr HF.out.2.2.2.2.2.1)
      have H34:=Lib.hid (And.intro h3 h4)
      clear h3 h4
      have hcr:(((mid:Int)<e)∧((e:Int)<b))∨(¬((mid:Int)<e))∨(((mid:Int)<e)∧¬((e:Int)<b)):=by omega
      rcases hcr with ⟨q5,q6⟩|q5|⟨q5,q6⟩
      ·have HY:=Lib.hid (show b-mid≤D by have:=HAB.out;have:=HF.out;omega)
       go_wp2_with (go_at_call 168;fail)
       all_goals
        refine (IH.out mid e b t w5 HY.out (by omega) (by omega) HH.out.2.2.2.1 H5.out.1 (HH.out.2.2.2.2.2.2.1.trans H5.out.2 fun k hk e=>by have:=HH.out.2.2.2.2.2.2.2;omega) (fun x hx=>HH.out.2.1 x (HT1.out.1.mem ((StEq.refl (K:=K) _).mem hx))) H34.out.1 H34.out.2).mono ?_
        rintro z7 w7 ⟨rfl,t2,hA7,hS7⟩
        have H7:=Lib.hid (And.intro hA7 hS7)
        clear hA7 hS7
        go_wp2
        all_goals
         go_end0
         have hd:=Ux.sym_done HT1.out.1 HT1.out.2 ⟨HF.out.2.2.2.2.2.2.1,by have:=HF.out.2.2.2.2.2.2.2.1;omega⟩ (StEq.refl (K:=K) _) (Out.refl _ a mid) HX.out H7.out.1.eq H7.out.1.out H7.out.2
         exact ⟨rfl,t2,⟨hd.1,hd.2.1,H7.out.1.row,(H5.out.2.trans H7.out.1.touch fun _ _ h=>h)⟩,hd.2.2⟩
      ·have HY:=Lib.hid (show Srt K t mid b from (show mid=e by have:=HF.out;omega)▸H34.out.2)
       go_wp2
       all_goals
        go_end0
        have hd:=Ux.sym_done HT1.out.1 HT1.out.2 ⟨HF.out.2.2.2.2.2.2.1,by have:=HF.out.2.2.2.2.2.2.2.1;omega⟩ (StEq.refl (K:=K) _) (Out.refl _ a mid) HX.out (StEq.refl _) (Out.refl _ _ _) HY.out
        exact ⟨rfl,t,⟨hd.1,hd.2.1,H5.out.1,H5.out.2⟩,hd.2.2⟩
      ·have HY:=Lib.hid (show Srt K t mid b from (show e=b by have:=HF.out;omega)▸H34.out.1)
       go_wp2
       all_goals
        go_end0
        have hd:=Ux.sym_done HT1.out.1 HT1.out.2 ⟨HF.out.2.2.2.2.2.2.1,by have:=HF.out.2.2.2.2.2.2.2.1;omega⟩ (StEq.refl (K:=K) _) (Out.refl _ a mid) HX.out (StEq.refl _) (Out.refl _ _ _) HY.out
        exact ⟨rfl,t,⟨hd.1,hd.2.1,H5.out.1,H5.out.2⟩,hd.2.2⟩
    ·have hG:=(Rot.self l (s:=i) (m:=d) (e:=e) ⟨HF.out.2.1,HF.out.2.2.1⟩ (by have:=HF.out;omega)).good (K:=K) (by have:=HAB.out;have:=HH.out.2.2.2.1;omega) HF.out.1 HF.out.2.1 HF.out.2.2.1 HF.out.2.2.2.1 HF.out.2.2.2.2.2.2.2.2.1 HH.out.2.2.2.2.1 HH.out.2.2.2.2.2.1 HF.out.2.2.2.2.2.2.2.2.2.1 HF.out.2.2.2.2.2.2.2.2.2.2
     have HT1:=Lib.hid hG
     have H5:=Lib.hid (And.intro (HH.out.1.touch HI.out.2.2 (fun f=>f)) (HI.out.2.2.mono fun _ _ f=>f.elim:Ux.Touch (fun k=>k=g) w wr))
     clear hG
     have hcl:(((a:Int)<i)∧((i:Int)<mid))∨(¬((a:Int)<i))∨(((a:Int)<i)∧¬((i:Int)<mid)):=by omega
     rcases hcl with ⟨q3,q4⟩|q3|⟨q3,q4⟩
     ·have HX:=Lib.hid (show mid-a≤D by have:=HAB.out;have:=HF.out;omega)
      go_wp2_with (go_at_call 168;fail)
      refine (IH.out a i mid l wr HX.out (by omega) (by omega) (by have:=HF.out;have:=HH.out.2.2.2.1;omega) H5.out.1 (HH.out.2.2.2.2.2.2.1.trans H5.out.2 fun k hk e=>by have:=HH.out.2.2.2.2.2.2.2;omega) (fun x hx=>HH.out.2.1 x ((StEq.refl (K:=K) l).mem hx)) HT1.out.s1 HT1.out.s2).mono ?_
      rintro z6 w6 ⟨rfl,t1,hA6,hS6⟩
      have H6:=Lib.hid (And.intro hA6 hS6)
      clear hA6 hS6
      have h3:Srt K t1 mid e:=HT1.out.s3.out H6.out.1.out (.inr (Nat.le_refl _))
      have h4:Srt K t1 e b:=HT1.out.s4.out H6.out.1.out (.inr HF.out.2.2.2.2.2.1)
      have H34:=Lib.hid (And.intro h3 h4)
      clear h3 h4
      have hcr:(((mid:Int)<e)∧((e:Int)<b))∨(¬((mid:Int)<e))∨(((mid:Int)<e)∧¬((e:Int)<b)):=by omega
      rcases hcr with ⟨q5,q6⟩|q5|⟨q5,q6⟩
      ·have HY:=Lib.hid (show b-mid≤D by have:=HAB.out;have:=HF.out;omega)
       go_wp2_with (go_at_call 168;fail)
       all_goals
        refine (IH.out mid e b t1 w6 HY.out (by omega) (by omega) HH.out.2.2.2.1 H6.out.1.row (HH.out.2.2.2.2.2.2.1.trans (H5.out.2.trans H6.out.1.touch fun _ _ h=>h) fun k hk e=>by have:=HH.out.2.2.2.2.2.2.2;omega) (fun x hx=>HH.out.2.1 x ((StEq.refl (K:=K) l).mem (H6.out.1.eq.mem hx))) H34.out.1 H34.out.2).mono ?_
        rintro z7 w7 ⟨rfl,t2,hA7,hS7⟩
        have H7:=Lib.hid (And.intro hA7 hS7)
        clear hA7 hS7
        go_wp2
        all_goals
         go_end0
         have hd:=Ux.sym_done (StEq.refl (K:=K) l) HT1.out ⟨HF.out.2.2.2.2.2.2.1,by have:=HF.out.2.2.2.2.2.2.2.1;omega⟩ H6.out.1.eq H6.out.1.out H6.out.2 H7.out.1.eq H7.out.1.out H7.out.2
         exact ⟨rfl,t2,⟨hd.1,hd.2.1,H7.out.1.row,((H5.out.2.trans H6.out.1.touch fun _ _ h=>h).trans H7.out.1.touch fun _ _ h=>h)⟩,hd.2.2⟩
      ·have HY:=Lib.hid (show Srt K t1 mid b from (show mid=e by have:=HF.out;omega)▸H34.out.2)
       go_wp2
       all_goals
        go_end0
        have hd:=Ux.sym_done (StEq.refl (K:=K) l) HT1.out ⟨HF.out.2.2.2.2.2.2.1,by have:=HF.out.2.2.2.2.2.2.2.1;omega⟩ H6.out.1.eq H6.out.1.out H6.out.2 (StEq.refl _) (Out.refl _ _ _) HY.out
        exact ⟨rfl,t1,⟨hd.1,hd.2.1,H6.out.1.row,(H5.out.2.trans H6.out.1.touch fun _ _ h=>h)⟩,hd.2.2⟩
      ·have HY:=Lib.hid (show Srt K t1 mid b from (show e=b by have:=HF.out;omega)▸H34.out.1)
       go_wp2
       all_goals
        go_end0
        have hd:=Ux.sym_done (StEq.refl (K:=K) l) HT1.out ⟨HF.out.2.2.2.2.2.2.1,by have:=HF.out.2.2.2.2.2.2.2.1;omega⟩ H6.out.1.eq H6.out.1.out H6.out.2 (StEq.refl _) (Out.refl _ _ _) HY.out
        exact ⟨rfl,t1,⟨hd.1,hd.2.1,H6.out.1.row,(H5.out.2.trans H6.out.1.touch fun _ _ h=>h)⟩,hd.2.2⟩
     ·have HX:=Lib.hid (show Srt K l a mid from (show i=a by have:=HF.out;omega)▸HT1.out.s2)
      have h3:Srt K l mid e:=HT1.out.s3.out (Out.refl _ a mid) (.inr (Nat.le_refl _))
      have h4:Srt K l e b:=HT1.out.s4.out (Out.refl _ a mid) (.inr HF.out.2.2.2.2.2.1)
      have H34:=Lib.hid (And.intro h3 h4)
      clear h3 h4
      have hcr:(((mid:Int)<e)∧((e:Int)<b))∨(¬((mid:Int)<e))∨(((mid:Int)<e)∧¬((e:Int)<b)):=by omega
      rcases hcr with ⟨q5,q6⟩|q5|⟨q5,q6⟩
      ·have HY:=Lib.hid (show b-mid≤D by have:=HAB.out;have:=HF.out;omega)
       go_wp2_with (go_at_call 168;fail)
       all_goals
        refine (IH.out mid e b l wr HY.out (by omega) (by omega) HH.out.2.2.2.1 H5.out.1 (HH.out.2.2.2.2.2.2.1.trans H5.out.2 fun k hk e=>by have:=HH.out.2.2.2.2.2.2.2;omega) (fun x hx=>HH.out.2.1 x ((StEq.refl (K:=K) l).mem ((StEq.refl (K:=K) _).mem hx))) H34.out.1 H34.out.2).mono ?_
        rintro z7 w7 ⟨rfl,t2,hA7,hS7⟩
        have H7:=Lib.hid (And.intro hA7 hS7)
        clear hA7 hS7
        go_wp2
        all_goals
         go_end0
         have hd:=Ux.sym_done (StEq.refl (K:=K) l) HT1.out ⟨HF.out.2.2.2.2.2.2.1,by have:=HF.out.2.2.2.2.2.2.2.1;omega⟩ (StEq.refl (K:=K) _) (Out.refl _ a mid) HX.out H7.out.1.eq H7.out.1.out H7.out.2
         exact ⟨rfl,t2,⟨hd.1,hd.2.1,H7.out.1.row,(H5.out.2.trans H7.out.1.touch fun _ _ h=>h)⟩,hd.2.2⟩
      ·have HY:=Lib.hid (show Srt K l mid b from (show mid=e by have:=HF.out;omega)▸H34.out.2)
       go_wp2
       all_goals
        go_end0
        have hd:=Ux.sym_done (StEq.refl (K:=K) l) HT1.out ⟨HF.out.2.2.2.2.2.2.1,by have:=HF.out.2.2.2.2.2.2.2.1;omega⟩ (StEq.refl (K:=K) _) (Out.refl _ a mid) HX.out (StEq.refl _) (Out.refl _ _ _) HY.out
        exact ⟨rfl,l,⟨hd.1,hd.2.1,H5.out.1,H5.out.2⟩,hd.2.2⟩
      ·have HY:=Lib.hid (show Srt K l mid b from (show e=b by have:=HF.out;omega)▸H34.out.1)
       go_wp2
       all_goals
        go_end0
        have hd:=Ux.sym_done (StEq.refl (K:=K) l) HT1.out ⟨HF.out.2.2.2.2.2.2.1,by have:=HF.out.2.2.2.2.2.2.2.1;omega⟩ (StEq.refl (K:=K) _) (Out.refl _ a mid) HX.out (StEq.refl _) (Out.refl _ _ _) HY.out
        exact ⟨rfl,l,⟨hd.1,hd.2.1,H5.out.1,H5.out.2⟩,hd.2.2⟩
     ·have HX:=Lib.hid (show Srt K l a mid from (show i=mid by have:=HF.out;omega)▸HT1.out.s1)
      have h3:Srt K l mid e:=HT1.out.s3.out (Out.refl _ a mid) (.inr (Nat.le_refl _))
      have h4:Srt K l e b:=HT1.out.s4.out (Out.refl _ a mid) (.inr HF.out.2.2.2.2.2.1)
      have H34:=Lib.hid (And.intro h3 h4)
      clear h3 h4
      have hcr:(((mid:Int)<e)∧((e:Int)<b))∨(¬((mid:Int)<e))∨(((mid:Int)<e)∧¬((e:Int)<b)):=by omega
      rcases hcr with ⟨q5,q6⟩|q5|⟨q5,q6⟩
      ·have HY:=Lib.hid (show b-mid≤D by have:=HAB.out;have:=HF.out;omega)
       go_wp2_with (go_at_call 168;fail)
       all_goals
        refine (IH.out mid e b l wr HY.out (by omega) (by omega) HH.out.2.2.2.1 H5.out.1 (HH.out.2.2.2.2.2.2.1.trans H5.out.2 fun k hk e=>by have:=HH.out.2.2.2.2.2.2.2;omega) (fun x hx=>HH.out.2.1 x ((StEq.refl (K:=K) l).mem ((StEq.refl (K:=K) _).mem hx))) H34.out.1 H34.out.2).mono ?_
        rintro z7 w7 ⟨rfl,t2,hA7,hS7⟩
        have H7:=Lib.hid (And.intro hA7 hS7)
        clear hA7 hS7
        go_wp2
        all_goals
         go_end0
         have hd:=Ux.sym_done (StEq.refl (K:=K) l) HT1.out ⟨HF.out.2.2.2.2.2.2.1,by have:=HF.out.2.2.2.2.2.2.2.1;omega⟩ (StEq.refl (K:=K) _) (Out.refl _ a mid) HX.out H7.out.1.eq H7.out.1.out H7.out.2
         exact ⟨rfl,t2,⟨hd.1,hd.2.1,H7.out.1.row,(H5.out.2.trans H7.out.1.touch fun _ _ h=>h)⟩,hd.2.2⟩
      ·have HY:=Lib.hid (show Srt K l mid b from (show mid=e by have:=HF.out;omega)▸H34.out.2)
       go_wp2
       all_goals
        go_end0
        have hd:=Ux.sym_done (StEq.refl (K:=K) l) HT1.out ⟨HF.out.2.2.2.2.2.2.1,by have:=HF.out.2.2.2.2.2.2.2.1;omega⟩ (StEq.refl (K:=K) _) (Out.refl _ a mid) HX.out (StEq.refl _) (Out.refl _ _ _) HY.out
        exact ⟨rfl,l,⟨hd.1,hd.2.1,H5.out.1,H5.out.2⟩,hd.2.2⟩
      ·have HY:=Lib.hid (show Srt K l mid b from (show e=b by have:=HF.out;omega)▸H34.out.1)
       go_wp2
       all_goals
        go_end0
        have hd:=Ux.sym_done (StEq.refl (K:=K) l) HT1.out ⟨HF.out.2.2.2.2.2.2.1,by have:=HF.out.2.2.2.2.2.2.2.1;omega⟩ (StEq.refl (K:=K) _) (Out.refl _ a mid) HX.out (StEq.refl _) (Out.refl _ _ _) HY.out
        exact ⟨rfl,l,⟨hd.1,hd.2.1,H5.out.1,H5.out.2⟩,hd.2.2⟩
    ·have hG:=(Rot.self l (s:=i) (m:=d) (e:=e) ⟨HF.out.2.1,HF.out.2.2.1⟩ (by have:=HF.out;omega)).good (K:=K) (by have:=HAB.out;have:=HH.out.2.2.2.1;omega) HF.out.1 HF.out.2.1 HF.out.2.2.1 HF.out.2.2.2.1 HF.out.2.2.2.2.2.2.2.2.1 HH.out.2.2.2.2.1 HH.out.2.2.2.2.2.1 HF.out.2.2.2.2.2.2.2.2.2.1 HF.out.2.2.2.2.2.2.2.2.2.2
     have HT1:=Lib.hid hG
     have H5:=Lib.hid (And.intro (HH.out.1.touch HI.out.2.2 (fun f=>f)) (HI.out.2.2.mono fun _ _ f=>f.elim:Ux.Touch (fun k=>k=g) w wr))
     clear hG
     have hcl:(((a:Int)<i)∧((i:Int)<mid))∨(¬((a:Int)<i))∨(((a:Int)<i)∧¬((i:Int)<mid)):=by omega
     rcases hcl with ⟨q3,q4⟩|q3|⟨q3,q4⟩
     ·have HX:=Lib.hid (show mid-a≤D by have:=HAB.out;have:=HF.out;omega)
      go_wp2_with (go_at_call 168;fail)
      refine (IH.out a i mid l wr HX.out (by omega) (by omega) (by have:=HF.out;have:=HH.out.2.2.2.1;omega) H5.out.1 (HH.out.2.2.2.2.2.2.1.trans H5.out.2 fun k hk e=>by have:=HH.out.2.2.2.2.2.2.2;omega) (fun x hx=>HH.out.2.1 x ((StEq.refl (K:=K) l).mem hx)) HT1.out.s1 HT1.out.s2).mono ?_
      rintro z6 w6 ⟨rfl,t1,hA6,hS6⟩
      have H6:=Lib.hid (And.intro hA6 hS6)
      clear hA6 hS6
      have h3:Srt K t1 mid e:=HT1.out.s3.out H6.out.1.out (.inr (Nat.le_refl _))
      have h4:Srt K t1 e b:=HT1.out.s4.out H6.out.1.out (.inr HF.out.2.2.2.2.2.1)
      have H34:=Lib.hid (And.intro h3 h4)
      clear h3 h4
      have hcr:(((mid:Int)<e)∧((e:Int)<b))∨(¬((mid:Int)<e))∨(((mid:Int)<e)∧¬((e:Int)<b)):=by omega
      rcases hcr with ⟨q5,q6⟩|q5|⟨q5,q6⟩
      ·have HY:=Lib.hid (show b-mid≤D by have:=HAB.out;have:=HF.out;omega)
       go_wp2_with (go_at_call 168;fail)
       all_goals
        refine (IH.out mid e b t1 w6 HY.out (by omega) (by omega) HH.out.2.2.2.1 H6.out.1.row (HH.out.2.2.2.2.2.2.1.trans (H5.out.2.trans H6.out.1.touch fun _ _ h=>h) fun k hk e=>by have:=HH.out.2.2.2.2.2.2.2;omega) (fun x hx=>HH.out.2.1 x ((StEq.refl (K:=K) l).mem (H6.out.1.eq.mem hx))) H34.out.1 H34.out.2).mono ?_
        rintro z7 w7 ⟨rfl,t2,hA7,hS7⟩
        have H7:=Lib.hid (And.intro hA7 hS7)
        clear hA7 hS7
        go_wp2
        all_goals
         go_end0
         have hd:=Ux.sym_done (StEq.refl (K:=K) l) HT1.out ⟨HF.out.2.2.2.2.2.2.1,by have:=HF.out.2.2.2.2.2.2.2.1;omega⟩ H6.out.1.eq H6.out.1.out H6.out.2 H7.out.1.eq H7.out.1.out H7.out.2
         exact ⟨rfl,t2,⟨hd.1,hd.2.1,H7.out.1.row,((H5.out.2.trans H6.out.1.touch fun _ _ h=>h).trans H7.out.1.touch fun _ _ h=>h)⟩,hd.2.2⟩
      ·have HY:=Lib.hid (show Srt K t1 mid b from (show mid=e by have:=HF.out;omega)▸H34.out.2)
       go_wp2
       all_goals
        go_end0
        have hd:=Ux.sym_done (StEq.refl (K:=K) l) HT1.out ⟨HF.out.2.2.2.2.2.2.1,by have:=HF.out.2.2.2.2.2.2.2.1;omega⟩ H6.out.1.eq H6.out.1.out H6.out.2 (StEq.refl _) (Out.refl _ _ _) HY.out
        exact ⟨rfl,t1,⟨hd.1,hd.2.1,H6.out.1.row,(H5.out.2.trans H6.out.1.touch fun _ _ h=>h)⟩,hd.2.2⟩
      ·have HY:=Lib.hid (show Srt K t1 mid b from (show e=b by have:=HF.out;omega)▸H34.out.1)
       go_wp2
       all_goals
        go_end0
        have hd:=Ux.sym_done (StEq.refl (K:=K) l) HT1.out ⟨HF.out.2.2.2.2.2.2.1,by have:=HF.out.2.2.2.2.2.2.2.1;omega⟩ H6.out.1.eq H6.out.1.out H6.out.2 (StEq.refl _) (Out.refl _ _ _) HY.out
        exact ⟨rfl,t1,⟨hd.1,hd.2.1,H6.out.1.row,(H5.out.2.trans H6.out.1.touch fun _ _ h=>h)⟩,hd.2.2⟩
     ·have HX:=Lib.hid (show Srt K l a mid from (show i=a by have:=HF.out;omega)▸HT1.out.s2)
      have h3:Srt K l mid e:=HT1.out.s3.out (Out.refl _ a mid) (.inr (Nat.le_refl _))
      have h4:Srt K l e b:=HT1.out.s4.out (Out.refl _ a mid) (.inr HF.out.2.2.2.2.2.1)
      have H34:=Lib.hid (And.intro h3 h4)
      clear h3 h4
      have hcr:(((mid:Int)<e)∧((e:Int)<b))∨(¬((mid:Int)<e))∨(((mid:Int)<e)∧¬((e:Int)<b)):=by omega
      rcases hcr with ⟨q5,q6⟩|q5|⟨q5,q6⟩
      ·have HY:=Lib.hid (show b-mid≤D by have:=HAB.out;have:=HF.out;omega)
       go_wp2_with (go_at_call 168;fail)
       all_goals
        refine (IH.out mid e b l wr HY.out (by omega) (by omega) HH.out.2.2.2.1 H5.out.1 (HH.out.2.2.2.2.2.2.1.trans H5.out.2 fun k hk e=>by have:=HH.out.2.2.2.2.2.2.2;omega) (fun x hx=>HH.out.2.1 x ((StEq.refl (K:=K) l).mem ((StEq.refl (K:=K) _).mem hx))) H34.out.1 H34.out.2).mono ?_
        rintro z7 w7 ⟨rfl,t2,hA7,hS7⟩
        have H7:=Lib.hid (And.intro hA7 hS7)
        clear hA7 hS7
        go_wp2
        all_goals
         go_end0
         have hd:=Ux.sym_done (StEq.refl (K:=K) l) HT1.out ⟨HF.out.2.2.2.2.2.2.1,by have:=HF.out.2.2.2.2.2.2.2.1;omega⟩ (StEq.refl (K:=K) _) (Out.refl _ a mid) HX.out H7.out.1.eq H7.out.1.out H7.out.2
         exact ⟨rfl,t2,⟨hd.1,hd.2.1,H7.out.1.row,(H5.out.2.trans H7.out.1.touch fun _ _ h=>h)⟩,hd.2.2⟩
      ·have HY:=Lib.hid (show Srt K l mid b from (show mid=e by have:=HF.out;omega)▸H34.out.2)
       go_wp2
       all_goals
        go_end0
        have hd:=Ux.sym_done (StEq.refl (K:=K) l) HT1.out ⟨HF.out.2.2.2.2.2.2.1,by have:=HF.out.2.2.2.2.2.2.2.1;omega⟩ (StEq.refl (K:=K) _) (Out.refl _ a mid) HX.out (StEq.refl _) (Out.refl _ _ _) HY.out
        exact ⟨rfl,l,⟨hd.1,hd.2.1,H5.out.1,H5.out.2⟩,hd.2.2⟩
      ·have HY:=Lib.hid (show Srt K l mid b from (show e=b by have:=HF.out;omega)▸H34.out.1)
       go_wp2
       all_goals
        go_end0
        have hd:=Ux.sym_done (StEq.refl (K:=K) l) HT1.out ⟨HF.out.2.2.2.2.2.2.1,by have:=HF.out.2.2.2.2.2.2.2.1;omega⟩ (StEq.refl (K:=K) _) (Out.refl _ a mid) HX.out (StEq.refl _) (Out.refl _ _ _) HY.out
        exact ⟨rfl,l,⟨hd.1,hd.2.1,H5.out.1,H5.out.2⟩,hd.2.2⟩
     ·have HX:=Lib.hid (show Srt K l a mid from (show i=mid by have:=HF.out;omega)▸HT1.out.s1)
      have h3:Srt K l mid e:=HT1.out.s3.out (Out.refl _ a mid) (.inr (Nat.le_refl _))
      have h4:Srt K l e b:=HT1.out.s4.out (Out.refl _ a mid) (.inr HF.out.2.2.2.2.2.1)
      have H34:=Lib.hid (And.intro h3 h4)
      clear h3 h4
      have hcr:(((mid:Int)<e)∧((e:Int)<b))∨(¬((mid:Int)<e))∨(((mid:Int)<e)∧¬((e:Int)<b)):=by omega
      rcases hcr with ⟨q5,q6⟩|q5|⟨q5,q6⟩
      ·have HY:=Lib.hid (show b-mid≤D by have:=HAB.out;have:=HF.out;omega)
       go_wp2_with (go_at_call 168;fail)
       all_goals
        refine (IH.out mid e b l wr HY.out (by omega) (by omega) HH.out.2.2.2.1 H5.out.1 (HH.out.2.2.2.2.2.2.1.trans H5.out.2 fun k hk e=>by have:=HH.out.2.2.2.2.2.2.2;omega) (fun x hx=>HH.out.2.1 x ((StEq.refl (K:=K) l).mem ((StEq.refl (K:=K) _).mem hx))) H34.out.1 H34.out.2).mono ?_
        rintro z7 w7 ⟨rfl,t2,hA7,hS7⟩
        have H7:=Lib.hid (And.intro hA7 hS7)
        clear hA7 hS7
        go_wp2
        all_goals
         go_end0
         have hd:=Ux.sym_done (StEq.refl (K:=K) l) HT1.out ⟨HF.out.2.2.2.2.2.2.1,by have:=HF.out.2.2.2.2.2.2.2.1;omega⟩ (StEq.refl (K:=K) _) (Out.refl _ a mid) HX.out H7.out.1.eq H7.out.1.out H7.out.2
         exact ⟨rfl,t2,⟨hd.1,hd.2.1,H7.out.1.row,(H5.out.2.trans H7.out.1.touch fun _ _ h=>h)⟩,hd.2.2⟩
      ·have HY:=Lib.hid (show Srt K l mid b from (show mid=e by have:=HF.out;omega)▸H34.out.2)
       go_wp2
       all_goals
        go_end0
        have hd:=Ux.sym_done (StEq.refl (K:=K) l) HT1.out ⟨HF.out.2.2.2.2.2.2.1,by have:=HF.out.2.2.2.2.2.2.2.1;omega⟩ (StEq.refl (K:=K) _) (Out.refl _ a mid) HX.out (StEq.refl _) (Out.refl _ _ _) HY.out
        exact ⟨rfl,l,⟨hd.1,hd.2.1,H5.out.1,H5.out.2⟩,hd.2.2⟩
      ·have HY:=Lib.hid (show Srt K l mid b from (show e=b by have:=HF.out;omega)▸H34.out.1)
       go_wp2
       all_goals
        go_end0
        have hd:=Ux.sym_done (StEq.refl (K:=K) l) HT1.out ⟨HF.out.2.2.2.2.2.2.1,by have:=HF.out.2.2.2.2.2.2.2.1;omega⟩ (StEq.refl (K:=K) _) (Out.refl _ a mid) HX.out (StEq.refl _) (Out.refl _ _ _) HY.out
        exact ⟨rfl,l,⟨hd.1,hd.2.1,H5.out.1,H5.out.2⟩,hd.2.2⟩
end Go.Proofs.YtfccjaboicpohaaGreatDoor
namespace Go.Proofs.YtfccjaboicpohaaGreatDoor
open Go.RowKit
open Ux (Row swp StEq Srt Out Up Dn kLt slt Rot RotGood)
set_option maxHeartbeats 32000000 in
set_option maxRecDepth 100000 in
theorem symCB_ (g N c:Nat) (cs:Value) (K:ByteArray→ByteArray) (w0:World) (hN:N≤1000000) (hC:CmpOk w0 cs K) (hg:w0.heap.size≤g) (D:Nat) (ih:SymAll g N c cs K w0 D) (a d b:Nat) (l:List ByteArray) (w:World) (hD:b-a≤D+1) (had:a<d) (hdb:d<b) (hb:b≤N) (h:TRow w g N c l) (hT:Ux.Touch (fun _=>False) w0 w) (hs: ∀x∈l,x.size≤1000000) (sl:Srt K l a d) (sr:Srt K l d b)
 (hA: ¬a+1=d) (hB: ¬d+1=b) (hmd0: ¬(a+b)/2<d):
 Calls Tryz.prog 168 #[.slice (some ⟨g,0,none⟩) N c,.int .i64 a,.int .i64 d,.int .i64 b,.func (.func 29) #[cs] #[]] w (SymPost K g N c w l a b):=by
 unfold SymAll at ih
 have IH:=Lib.hid ih
 clear ih
 have hNl:=h.1
 have N0:(N:Int)≤1000000:=by omega
 have b0:(b:Int)≤N:=by omega
 have d0:(d:Int)<N:=by omega
 have a0:(0:Int)≤a:=by omega
 obtain ⟨z,hz⟩: ∃z:Nat,d-a=z:=⟨_,rfl⟩
 have zI:(d:Int)-a=z:=by omega
 have z1:((z:Int)==1)=false:=beq_false_of_ne (by omega)
 obtain ⟨y,hy⟩: ∃y:Nat,b-d=y:=⟨_,rfl⟩
 have yI:(b:Int)-d=y:=by omega
 have y1:((y:Int)==1)=false:=beq_false_of_ne (by omega)
 obtain ⟨s,mid,sI,hs1,hu,mI,hmid,m0,m1⟩:=mid_is a b (by omega) (by omega)
 obtain ⟨n,hn⟩: ∃n,mid+d=n:=⟨_,rfl⟩
 have nI:(mid:Int)+d=n:=by omega
 obtain ⟨p,hp⟩: ∃p,n-1=p:=⟨_,rfl⟩
 have pI:(n:Int)-1=p:=by omega
 have nB:(n:Int)≤2000000:=by omega
 have n0:(0:Int)≤n:=by omega
 have p0:(0:Int)≤p:=by omega
 have pB:(p:Int)≤2000000:=by omega
 have bB:(b:Int)≤1000000:=by omega
 have dB:(d:Int)≤1000000:=by omega
 have HH:=Lib.hid (And.intro h (And.intro hs (And.intro hN (And.intro hb (And.intro sl (And.intro sr (And.intro hT hg)))))))
 have HC:=Lib.hid fun x y W (T:Ux.Touch (fun k=>k=g) w W)=>hC x y W (hT.trans T fun k hk e=>by omega)
 have HAB:=Lib.hid (And.intro had (And.intro hdb (And.intro hNl (And.intro hmid (And.intro hn (And.intro hp hD))))))
 have HRT:=Lib.hid fun (X U V Y:List ByteArray) (a m b:Nat) W h h1 h2 h3 h4 h5=>rot_ g N c (.func (.func 29) #[cs] #[]) X U V Y a m b W h hN h1 h2 h3 h4 h5
 have hmd: ¬mid<d:=by omega
 clear hmd0
 clear h hC hg hT hs hN had hdb hb sl sr hNl hz hy hs1 hmid hn hp hA hB hD
 ·have q1: ¬(d:Int)>mid:=by omega
  have hsr:d≤mid:=by omega
  clear hmd
  have HSR:=Lib.hid hsr
  have hs0r0:a≤d∧d≤N∧d≤d∧d≤mid:=by have:=HAB.out;have:=HH.out.2.2.2.1;omega
  have HSZ:=Lib.hid hs0r0
  clear hsr hs0r0
  go_enter Tryz.func168,Tryz.ntmps168
  go_wp2_with (fail)
  go_loopg [20,21] d (fun gk s20 s21 wr=> ∃i j:Nat,s20= .int .i64 i∧s21= .int .i64 j∧a≤i∧i≤j∧j≤d∧j≤i+gk∧Hid ((j<d→∃x y,l[j]? =some x∧l[mid+d-1-j]? =some y∧kLt K y x=true)∧(a<i→∃x y,l[i-1]? =some x∧l[mid+d-1-(i-1)]? =some y∧kLt K y x=false)∧Ux.Touch (fun _=>False) w wr))
  case atStart=>exact ⟨a,d,rfl,rfl,Nat.le_refl _,HSZ.out.1,Nat.le_refl _,by omega,Lib.hid ⟨fun h=>absurd h (by omega),fun h=>absurd h (by omega),Ux.Touch.refl _ _⟩⟩
  case round=>
   obtain ⟨i,j,rfl,rfl,hi,hij,hj,hig,HI⟩:=hrel
   by_cases hlt:i<j
   ·obtain ⟨g',rfl⟩: ∃g',gk=g'+1:=⟨gk-1,by omega⟩
    have i1:(i:Int)<j:=by omega
    have hjN:j≤1000000:=by have:=HH.out.2.2.1;have:=HSZ.out;omega
    obtain ⟨s',e,s'I,hs',hu',eI,he,e0,e1⟩:=mid_is i j (by omega) hjN
    have hel:i≤e∧e<j:=by omega
    have heN:e<d:=by omega
    obtain ⟨q,hq⟩: ∃q,p-e=q:=⟨_,rfl⟩
    have hab:=HAB.out
    have hszz:=HSZ.out
    have hss:(mid<d∧a=mid+d-b∧d=mid)∨(d≤mid∧a=a∧d=d):= .inr ⟨HSR.out,rfl,rfl⟩
    have hbN:=HH.out.2.2.2.1
    have hqb:q<b∧e≤p:=by omega
    have qI:(p:Int)-e=q:=by omega
    have eN:(e:Int)<N:=by omega
    have qN:(q:Int)<N:=by omega
    have q0:(0:Int)≤q:=by omega
    obtain ⟨x,hx⟩:=get_lt (l:=l) (i:=e) (by omega)
    obtain ⟨y',hy'⟩:=get_lt (l:=l) (i:=q) (by omega)
    have hR:=HH.out.1.touch HI.out.2.2 (fun f=>f)
    have c1:=hR.cell hx
    have c2:=hR.cell hy'
    have HW:=Lib.hid fun W (T:Ux.Touch (fun _=>False) w W)=>HC.out y' x W (T.mono fun _ _ f=>f.elim) (HH.out.2.1 y' (List.mem_of_getElem? hy')) (HH.out.2.1 x (List.mem_of_getElem? hx))
    have hqe:mid+d-1-e=q:=by omega
    have HX:=Lib.hid (And.intro hi (And.intro hij (And.intro hj (And.intro hig (And.intro hel (And.intro hx (And.intro hy' (And.intro hqe heN))))))))
    clear hi hij hj hig hlt hjN hs' he hel hx hR hab hszz hss hbN hqb hq heN hy' hqe
    cases hk:kLt K y' x with
    |false=>
     obtain ⟨r,hr⟩: ∃r,cmpStr (K y') (K x)=r:=⟨_,rfl⟩
     have r1:decide (r<0)=false:=decide_eq_false (by rw [←hr];exact cmp_ge hk)
     rw [hr] at HW
     have HK:=Lib.hid hk
     clear hk hr
     go_upto_region 35 with (fail)
     refine Ux.wpr (fun _ w'=>w'.cell? ⟨g,e,none⟩=some (.string x)∧w'.cell? ⟨g,q,none⟩=some (.string y')) (.q [0,1,2,3,4,5,7,8,9] (.h false [6,10] (.e 11 false false (.q [12,13] (.line []))))) ?_;repeat ((with_reducible refine Ux.qg ?_);refine Ux.qu ?_)
     go_wp2_with (go_at_call 29;fail)
     refine (HW.out _ (HI.out.2.2.trans (Ux.Touch.refl (fun _=>False) wr).drew fun _ _ f=>f)).mono ?_
     rintro z' w4 ⟨rfl,T4⟩
     have H4:=Lib.hid (HI.out.2.2.trans ((Ux.Touch.refl (fun _=>False) wr).drew.trans T4 fun _ _ f=>f) fun _ _ f=>f)
     clear T4 c1 c2
     go_wp2_with (fail)
     repeat ((with_reducible refine Ux.qg ?_);refine Ux.qu ?_)
     go_wp2
     go_roundg g'
     case measure=>have:=HX.out;omega
     case rel=>
      refine ⟨e+1,j,rfl,rfl,?_,?_,?_,?_,Lib.hid ⟨HI.out.1,fun _=>⟨x,y',?_,?_,HK.out⟩,H4.out⟩⟩
      ·have:=HX.out;omega
      ·have:=HX.out;omega
      ·have:=HX.out;omega
      ·have:=HX.out;omega
      ·exact HX.out.2.2.2.2.2.1
      ·rw [Nat.add_sub_cancel,HX.out.2.2.2.2.2.2.2.1];exact HX.out.2.2.2.2.2.2.1
    |true=>
     obtain ⟨r,hr⟩: ∃r,cmpStr (K y') (K x)=r:=⟨_,rfl⟩
     have r1:decide (r<0)=true:=decide_eq_true (by rw [←hr];exact cmp_lt hk)
     rw [hr] at HW
     have HK:=Lib.hid hk
     clear hk hr
     go_upto_region 35 with (fail)
     refine Ux.wpr (fun _ w'=>w'.cell? ⟨g,e,none⟩=some (.string x)∧w'.cell? ⟨g,q,none⟩=some (.string y')) (.q [0,1,2,3,4,5,7,8,9] (.h false [6,10] (.e 11 false false (.q [12,13] (.line []))))) ?_;repeat ((with_reducible refine Ux.qg ?_);refine Ux.qu ?_)
     go_wp2_with (go_at_call 29;fail)
     refine (HW.out _ (HI.out.2.2.trans (Ux.Touch.refl (fun _=>False) wr).drew fun _ _ f=>f)).mono ?_
     rintro z' w4 ⟨rfl,T4⟩
     have H4:=Lib.hid (HI.out.2.2.trans ((Ux.Touch.refl (fun _=>False) wr).drew.trans T4 fun _ _ f=>f) fun _ _ f=>f)
     clear T4 c1 c2
     go_wp2_with (fail)
     repeat ((with_reducible refine Ux.qg ?_);refine Ux.qu ?_)
     go_wp2
     go_roundg g'
     case measure=>have:=HX.out;omega
     case rel=>
      refine ⟨i,e,rfl,rfl,?_,?_,?_,?_,Lib.hid ⟨fun _=>⟨x,y',?_,?_,HK.out⟩,HI.out.2.1,H4.out⟩⟩
      ·have:=HX.out;omega
      ·have:=HX.out;omega
      ·have:=HX.out;omega
      ·have:=HX.out;omega
      ·exact HX.out.2.2.2.2.2.1
      ·rw [HX.out.2.2.2.2.2.2.2.1];exact HX.out.2.2.2.2.2.2.1
   ·obtain rfl:i=j:=by omega
    have i1: ¬(i:Int)<i:=by omega
    obtain ⟨e,he⟩: ∃e,n-i=e:=⟨_,rfl⟩
    have hab:=HAB.out
    have hszz:=HSZ.out
    have hss:(mid<d∧a=mid+d-b∧d=mid)∨(d≤mid∧a=a∧d=d):= .inr ⟨HSR.out,rfl,rfl⟩
    have eI:(n:Int)-i=e:=by omega
    have hf:=Ux.sym_found (K:=K) (l:=l) (s:=i) (e:=e) hab.1 hab.2.1 hab.2.2.2.1 hss hi hj (by omega) (by have:=HH.out.2.2.2.1;omega) HH.out.2.2.2.2.1 HH.out.2.2.2.2.2.1 HI.out.1 HI.out.2.1
    obtain ⟨f1,f2,f3,f4,f5,f6,f7,f8,f9,fi,fii⟩:=hf
    have HF:=Lib.hid (And.intro f1 (And.intro f2 (And.intro f3 (And.intro f4 (And.intro f5 (And.intro f6 (And.intro f7 (And.intro f8 (And.intro f9 (And.intro fi fii))))))))))
    clear hi hij hj hig hlt he hab hszz hss f1 f2 f3 f4 f5 f6 f7 f8 f9 fi fii
    have hcx:(((i:Int)<d)∧((d:Int)<e))∨(¬((i:Int)<d))∨(((i:Int)<d)∧¬((d:Int)<e)):=by omega
    rcases hcx with ⟨q1,q2⟩|q1|⟨q1,q2⟩
    ·obtain ⟨X,U,V,Y,e1,e2,e3,e4,e5,e6⟩:=rot_plain (K:=K) HF.out.2.1 HF.out.2.2.1 (by have:=HF.out.2.2.2.1;have:=HAB.out;have:=HH.out.2.2.2.1;omega) HF.out.2.2.2.2.2.2.2.2.2.1
     have hG:=e6.good (K:=K) (by have:=HAB.out;have:=HH.out.2.2.2.1;omega) HF.out.1 HF.out.2.1 HF.out.2.2.1 HF.out.2.2.2.1 HF.out.2.2.2.2.2.2.2.2.1 HH.out.2.2.2.2.1 HH.out.2.2.2.2.2.1 HF.out.2.2.2.2.2.2.2.2.2.1 HF.out.2.2.2.2.2.2.2.2.2.2
     have hrw:=HH.out.1.touch HI.out.2.2 (fun f=>f)
     rw [e1] at hrw
     have HQ:=Lib.hid (And.intro hrw (And.intro e2 (And.intro e3 e4)))
     obtain ⟨t,ht⟩: ∃t,X++(V++(U++Y))=t:=⟨_,rfl⟩
     have HRR:=Lib.hid fun W h=>HRT.out X U V Y i d e W h e2 e3 e4 (by omega) (by omega)
     rw [ht] at e5 hG HRR
     have HT1:=Lib.hid (And.intro e5 hG)
     clear e1 e2 e3 e4 e5 e6 hG hrw ht
     go_wp2_with (go_at_call 209;fail)
     refine (HRR.out _ HQ.out.1).mono ?_
     rintro z5 w5 ⟨rfl,hR5,T5⟩
     have H5:=Lib.hid (And.intro hR5 ((HI.out.2.2.mono fun _ _ f=>f.elim:Ux.Touch (fun k=>k=g) w wr).trans T5 fun _ _ h=>h))
     clear hR5 T5
     have hcl:(((a:Int)<i)∧((i:Int)<mid))∨(¬((a:Int)<i))∨(((a:Int)<i)∧¬((i:Int)<mid)):=by omega
     rcases hcl with ⟨q3,q4⟩|q3|⟨q3,q4⟩
     ·have HX:=Lib.hid (show mid-a≤D by have:=HAB.out;have:=HF.out;omega)
      go_wp2_with (go_at_call 168;fail)
      refine (IH.out a i mid t w5 HX.out (by omega) (by omega) (by have:=HF.out;have:=HH.out.2.2.2.1;omega) H5.out.1 (HH.out.2.2.2.2.2.2.1.trans H5.out.2 fun k hk e=>by have:=HH.out.2.2.2.2.2.2.2;omega) (fun x hx=>HH.out.2.1 x (HT1.out.1.mem hx)) HT1.out.2.s1 HT1.out.2.s2).mono ?_
      rintro z6 w6 ⟨rfl,t1,hA6,hS6⟩
      have H6:=Lib.hid (And.intro hA6 hS6)
      clear hA6 hS6
      have h3:Srt K t1 mid e:=HT1.out.2.s3.out H6.out.1.out (.inr (Nat.le_refl _))
      have h4:Srt K t1 e b:=HT1.out.2.s4.out H6.out.1.out (.inr HF.out.2.2.2.2.2.1)
      have H34:=Lib.hid (And.intro h3 h4)
      clear h3 h4
      have hcr:(((mid:Int)<e)∧((e:Int)<b))∨(¬((mid:Int)<e))∨(((mid:Int)<e)∧¬((e:Int)<b)):=by omega
      rcases hcr with ⟨q5,q6⟩|q5|⟨q5,q6⟩
      ·have HY:=Lib.hid (show b-mid≤D by have:=HAB.out;have:=HF.out;omega)
       go_wp2_with (go_at_call 168;fail)
       all_goals
        refine (IH.out mid e b t1 w6 HY.out (by omega) (by omega) HH.out.2.2.2.1 H6.out.1.row (HH.out.2.2.2.2.2.2.1.trans (H5.out.2.trans H6.out.1.touch fun _ _ h=>h) fun k hk e=>by have:=HH.out.2.2.2.2.2.2.2;omega) (fun x hx=>HH.out.2.1 x (HT1.out.1.mem (H6.out.1.eq.mem hx))) H34.out.1 H34.out.2).mono ?_
        rintro z7 w7 ⟨rfl,t2,hA7,hS7⟩
        have H7:=Lib.hid (And.intro hA7 hS7)
        clear hA7 hS7
        go_wp2
        all_goals
         go_end0
         have hd:=Ux.sym_done HT1.out.1 HT1.out.2 ⟨HF.out.2.2.2.2.2.2.1,by have:=HF.out.2.2.2.2.2.2.2.1;omega⟩ H6.out.1.eq H6.out.1.out H6.out.2 H7.out.1.eq H7.out.1.out H7.out.2
         exact ⟨rfl,t2,⟨hd.1,hd.2.1,H7.out.1.row,((H5.out.2.trans H6.out.1.touch fun _ _ h=>h).trans H7.out.1.touch fun _ _ h=>h)⟩,hd.2.2⟩
      ·have HY:=Lib.hid (show Srt K t1 mid b from (show mid=e by have:=HF.out;omega)▸H34.out.2)
       go_wp2
       all_goals
        go_end0
        have hd:=Ux.sym_done HT1.out.1 HT1.out.2 ⟨HF.out.2.2.2.2.2.2.1,by have:=HF.out.2.2.2.2.2.2.2.1;omega⟩ H6.out.1.eq H6.out.1.out H6.out.2 (StEq.refl _) (Out.refl _ _ _) HY.out
        exact ⟨rfl,t1,⟨hd.1,hd.2.1,H6.out.1.row,(H5.out.2.trans H6.out.1.touch fun _ _ h=>h)⟩,hd.2.2⟩
      ·have HY:=Lib.hid (show Srt K t1 mid b from (show e=b by have:=HF.out;omega)▸H34.out.1)
       go_wp2
       all_goals
        go_end0
        have hd:=Ux.sym_done HT1.out.1 HT1.out.2 ⟨HF.out.2.2.2.2.2.2.1,by have:=HF.out.2.2.2.2.2.2.2.1;omega⟩ H6.out.1.eq H6.out.1.out H6.out.2 (StEq.refl _) (Out.refl _ _ _) HY.out
        exact ⟨rfl,t1,⟨hd.1,hd.2.1,H6.out.1.row,(H5.out.2.trans H6.out.1.touch fun _ _ h=>h)⟩,hd.2.2⟩
     ·have HX:=Lib.hid (show Srt K t a mid from (show i=a by have:=HF.out;omega)▸HT1.out.2.s2)
      have h3:Srt K t mid e:=HT1.out.2.s3.out (Out.refl _ a mid) (.inr (Nat.le_refl _))
      have h4:Srt K t e b:=HT1.out.2.s4.out (Out.refl _ a mid) (.inr HF.out.2.2.2.2.2.1)
      have H34:=Lib.hid (And.intro h3 h4)
      clear h3 h4
      have hcr:(((mid:Int)<e)∧((e:Int)<b))∨(¬((mid:Int)<e))∨(((mid:Int)<e)∧¬((e:Int)<b)):=by omega
      rcases hcr with ⟨q5,q6⟩|q5|⟨q5,q6⟩
      ·have HY:=Lib.hid (show b-mid≤D by have:=HAB.out;have:=HF.out;omega)
       go_wp2_with (go_at_call 168;fail)
       all_goals
        refine (IH.out mid e b t w5 HY.out (by omega) (by omega) HH.out.2.2.2.1 H5.out.1 (HH.out.2.2.2.2.2.2.1.trans H5.out.2 fun k hk e=>by have:=HH.out.2.2.2.2.2.2.2;omega) (fun x hx=>HH.out.2.1 x (HT1.out.1.mem ((StEq.refl (K:=K) _).mem hx))) H34.out.1 H34.out.2).mono ?_
        rintro z7 w7 ⟨rfl,t2,hA7,hS7⟩
        have H7:=Lib.hid (And.intro hA7 hS7)
        clear hA7 hS7
        go_wp2
        all_goals
         go_end0
         have hd:=Ux.sym_done HT1.out.1 HT1.out.2 ⟨HF.out.2.2.2.2.2.2.1,by have:=HF.out.2.2.2.2.2.2.2.1;omega⟩ (StEq.refl (K:=K) _) (Out.refl _ a mid) HX.out H7.out.1.eq H7.out.1.out H7.out.2
         exact ⟨rfl,t2,⟨hd.1,hd.2.1,H7.out.1.row,(H5.out.2.trans H7.out.1.touch fun _ _ h=>h)⟩,hd.2.2⟩
      ·have HY:=Lib.hid (show Srt K t mid b from (show mid=e by have:=HF.out;omega)▸H34.out.2)
       go_wp2
       all_goals
        go_end0
        have hd:=Ux.sym_done HT1.out.1 HT1.out.2 ⟨HF.out.2.2.2.2.2.2.1,by have:=HF.out.2.2.2.2.2.2.2.1;omega⟩ (StEq.refl (K:=K) _) (Out.refl _ a mid) HX.out (StEq.refl _) (Out.refl _ _ _) HY.out
        exact ⟨rfl,t,⟨hd.1,hd.2.1,H5.out.1,H5.out.2⟩,hd.2.2⟩
      ·have HY:=Lib.hid (show Srt K t mid b from (show e=b by have:=HF.out;omega)▸H34.out.1)
       go_wp2
       all_goals
        go_end0
        have hd:=Ux.sym_done HT1.out.1 HT1.out.2 ⟨HF.out.2.2.2.2.2.2.1,by have:=HF.out.2.2.2.2.2.2.2.1;omega⟩ (StEq.refl (K:=K) _) (Out.refl _ a mid) HX.out (StEq.refl _) (Out.refl _ _ _) HY.out
        exact ⟨rfl,t,⟨hd.1,hd.2.1,H5.out.1,H5.out.2⟩,hd.2.2⟩
     ·have HX:=Lib.hid (show Srt K t a mid from (show i=mid by have:=HF.out;omega)▸HT1.out.2.s1)
      have h3:Srt K t mid e:=HT1.out.2.s3.out (Out.refl _ a mid) (.inr (Nat.le_refl _))
      have h4:Srt K t e b:=HT1.out.2.s4.out (Out.refl _ a mid) (.inr HF.out.2.2.2.2.2.1)
      have H34:=Lib.hid (And.intro h3 h4)
      clear h3 h4
      have hcr:(((mid:Int)<e)∧((e:Int)<b))∨(¬((mid:Int)<e))∨(((mid:Int)<e)∧¬((e:Int)<b)):=by omega
      rcases hcr with ⟨q5,q6⟩|q5|⟨q5,q6⟩
      ·have HY:=Lib.hid (show b-mid≤D by have:=HAB.out;have:=HF.out;omega)
       go_wp2_with (go_at_call 168;fail)
       all_goals
        refine (IH.out mid e b t w5 HY.out (by omega) (by omega) HH.out.2.2.2.1 H5.out.1 (HH.out.2.2.2.2.2.2.1.trans H5.out.2 fun k hk e=>by have:=HH.out.2.2.2.2.2.2.2;omega) (fun x hx=>HH.out.2.1 x (HT1.out.1.mem ((StEq.refl (K:=K) _).mem hx))) H34.out.1 H34.out.2).mono ?_
        rintro z7 w7 ⟨rfl,t2,hA7,hS7⟩
        have H7:=Lib.hid (And.intro hA7 hS7)
        clear hA7 hS7
        go_wp2
        all_goals
         go_end0
         have hd:=Ux.sym_done HT1.out.1 HT1.out.2 ⟨HF.out.2.2.2.2.2.2.1,by have:=HF.out.2.2.2.2.2.2.2.1;omega⟩ (StEq.refl (K:=K) _) (Out.refl _ a mid) HX.out H7.out.1.eq H7.out.1.out H7.out.2
         exact ⟨rfl,t2,⟨hd.1,hd.2.1,H7.out.1.row,(H5.out.2.trans H7.out.1.touch fun _ _ h=>h)⟩,hd.2.2⟩
      ·have HY:=Lib.hid (show Srt K t mid b from (show mid=e by have:=HF.out;omega)▸H34.out.2)
       go_wp2
       all_goals
        go_end0
        have hd:=Ux.sym_done HT1.out.1 HT1.out.2 ⟨HF.out.2.2.2.2.2.2.1,by have:=HF.out.2.2.2.2.2.2.2.1;omega⟩ (StEq.refl (K:=K) _) (Out.refl _ a mid) HX.out (StEq.refl _) (Out.refl _ _ _) HY.out
        exact ⟨rfl,t,⟨hd.1,hd.2.1,H5.out.1,H5.out.2⟩,hd.2.2⟩
      ·have HY:=Lib.hid (show Srt K t mid b from (show e=b by have:=HF.out;omega)▸H34.out.1)
       go_wp2
       all_goals
        go_end0
        have hd:=Ux.sym_done HT1.out.1 HT1.out.2 ⟨HF.out.2.2.2.2.2.2.1,by have:=HF.out.2.2.2.2.2.2.2.1;omega⟩ (StEq.refl (K:=K) _) (Out.refl _ a mid) HX.out (StEq.refl _) (Out.refl _ _ _) HY.out
        exact ⟨rfl,t,⟨hd.1,hd.2.1,H5.out.1,H5.out.2⟩,hd.2.2⟩
    ·have hG:=(Rot.self l (s:=i) (m:=d) (e:=e) ⟨HF.out.2.1,HF.out.2.2.1⟩ (by have:=HF.out;omega)).good (K:=K) (by have:=HAB.out;have:=HH.out.2.2.2.1;omega) HF.out.1 HF.out.2.1 HF.out.2.2.1 HF.out.2.2.2.1 HF.out.2.2.2.2.2.2.2.2.1 HH.out.2.2.2.2.1 HH.out.2.2.2.2.2.1 HF.out.2.2.2.2.2.2.2.2.2.1 HF.out.2.2.2.2.2.2.2.2.2.2
     have HT1:=Lib.hid hG
     have H5:=Lib.hid (And.intro (HH.out.1.touch HI.out.2.2 (fun f=>f)) (HI.out.2.2.mono fun _ _ f=>f.elim:Ux.Touch (fun k=>k=g) w wr))
     clear hG
     have hcl:(((a:Int)<i)∧((i:Int)<mid))∨(¬((a:Int)<i))∨(((a:Int)<i)∧¬((i:Int)<mid)):=by omega
     rcases hcl with ⟨q3,q4⟩|q3|⟨q3,q4⟩
     ·have HX:=Lib.hid (show mid-a≤D by have:=HAB.out;have:=HF.out;omega)
      go_wp2_with (go_at_call 168;fail)
      refine (IH.out a i mid l wr HX.out (by omega) (by omega) (by have:=HF.out;have:=HH.out.2.2.2.1;omega) H5.out.1 (HH.out.2.2.2.2.2.2.1.trans H5.out.2 fun k hk e=>by have:=HH.out.2.2.2.2.2.2.2;omega) (fun x hx=>HH.out.2.1 x ((StEq.refl (K:=K) l).mem hx)) HT1.out.s1 HT1.out.s2).mono ?_
      rintro z6 w6 ⟨rfl,t1,hA6,hS6⟩
      have H6:=Lib.hid (And.intro hA6 hS6)
      clear hA6 hS6
      have h3:Srt K t1 mid e:=HT1.out.s3.out H6.out.1.out (.inr (Nat.le_refl _))
      have h4:Srt K t1 e b:=HT1.out.s4.out H6.out.1.out (.inr HF.out.2.2.2.2.2.1)
      have H34:=Lib.hid (And.intro h3 h4)
      clear h3 h4
      have hcr:(((mid:Int)<e)∧((e:Int)<b))∨(¬((mid:Int)<e))∨(((mid:Int)<e)∧¬((e:Int)<b)):=by omega
      rcases hcr with ⟨q5,q6⟩|q5|⟨q5,q6⟩
      ·have HY:=Lib.hid (show b-mid≤D by have:=HAB.out;have:=HF.out;omega)
       go_wp2_with (go_at_call 168;fail)
       all_goals
        refine (IH.out mid e b t1 w6 HY.out (by omega) (by omega) HH.out.2.2.2.1 H6.out.1.row (HH.out.2.2.2.2.2.2.1.trans (H5.out.2.trans H6.out.1.touch fun _ _ h=>h) fun k hk e=>by have:=HH.out.2.2.2.2.2.2.2;omega) (fun x hx=>HH.out.2.1 x ((StEq.refl (K:=K) l).mem (H6.out.1.eq.mem hx))) H34.out.1 H34.out.2).mono ?_
        rintro z7 w7 ⟨rfl,t2,hA7,hS7⟩
        have H7:=Lib.hid (And.intro hA7 hS7)
        clear hA7 hS7
        go_wp2
        all_goals
         go_end0
         have hd:=Ux.sym_done (StEq.refl (K:=K) l) HT1.out ⟨HF.out.2.2.2.2.2.2.1,by have:=HF.out.2.2.2.2.2.2.2.1;omega⟩ H6.out.1.eq H6.out.1.out H6.out.2 H7.out.1.eq H7.out.1.out H7.out.2
         exact ⟨rfl,t2,⟨hd.1,hd.2.1,H7.out.1.row,((H5.out.2.trans H6.out.1.touch fun _ _ h=>h).trans H7.out.1.touch fun _ _ h=>h)⟩,hd.2.2⟩
      ·have HY:=Lib.hid (show Srt K t1 mid b from (show mid=e by have:=HF.out;omega)▸H34.out.2)
       go_wp2
       all_goals
        go_end0
        have hd:=Ux.sym_done (StEq.refl (K:=K) l) HT1.out ⟨HF.out.2.2.2.2.2.2.1,by have:=HF.out.2.2.2.2.2.2.2.1;omega⟩ H6.out.1.eq H6.out.1.out H6.out.2 (StEq.refl _) (Out.refl _ _ _) HY.out
        exact ⟨rfl,t1,⟨hd.1,hd.2.1,H6.out.1.row,(H5.out.2.trans H6.out.1.touch fun _ _ h=>h)⟩,hd.2.2⟩
      ·have HY:=Lib.hid (show Srt K t1 mid b from (show e=b by have:=HF.out;omega)▸H34.out.1)
       go_wp2
       all_goals
        go_end0
        have hd:=Ux.sym_done (StEq.refl (K:=K) l) HT1.out ⟨HF.out.2.2.2.2.2.2.1,by have:=HF.out.2.2.2.2.2.2.2.1;omega⟩ H6.out.1.eq H6.out.1.out H6.out.2 (StEq.refl _) (Out.refl _ _ _) HY.out
        exact ⟨rfl,t1,⟨hd.1,hd.2.1,H6.out.1.row,(H5.out.2.trans H6.out.1.touch fun _ _ h=>h)⟩,hd.2.2⟩
     ·have HX:=Lib.hid (show Srt K l a mid from (show i=a by have:=HF.out;omega)▸HT1.out.s2)
      have h3:Srt K l mid e:=HT1.out.s3.out (Out.refl _ a mid) (.inr (Nat.le_refl _))
      have h4:Srt K l e b:=HT1.out.s4.out (Out.refl _ a mid) (.inr HF.out.2.2.2.2.2.1)
      have H34:=Lib.hid (And.intro h3 h4)
      clear h3 h4
      have hcr:(((mid:Int)<e)∧((e:Int)<b))∨(¬((mid:Int)<e))∨(((mid:Int)<e)∧¬((e:Int)<b)):=by omega
      rcases hcr with ⟨q5,q6⟩|q5|⟨q5,q6⟩
      ·have HY:=Lib.hid (show b-mid≤D by have:=HAB.out;have:=HF.out;omega)
       go_wp2_with (go_at_call 168;fail)
       all_goals
        refine (IH.out mid e b l wr HY.out (by omega) (by omega) HH.out.2.2.2.1 H5.out.1 (HH.out.2.2.2.2.2.2.1.trans H5.out.2 fun k hk e=>by have:=HH.out.2.2.2.2.2.2.2;omega) (fun x hx=>HH.out.2.1 x ((StEq.refl (K:=K) l).mem ((StEq.refl (K:=K) _).mem hx))) H34.out.1 H34.out.2).mono ?_
        rintro z7 w7 ⟨rfl,t2,hA7,hS7⟩
        have H7:=Lib.hid (And.intro hA7 hS7)
        clear hA7 hS7
        go_wp2
        all_goals
         go_end0
         have hd:=Ux.sym_done (StEq.refl (K:=K) l) HT1.out ⟨HF.out.2.2.2.2.2.2.1,by have:=HF.out.2.2.2.2.2.2.2.1;omega⟩ (StEq.refl (K:=K) _) (Out.refl _ a mid) HX.out H7.out.1.eq H7.out.1.out H7.out.2
         exact ⟨rfl,t2,⟨hd.1,hd.2.1,H7.out.1.row,(H5.out.2.trans H7.out.1.touch fun _ _ h=>h)⟩,hd.2.2⟩
      ·have HY:=Lib.hid (show Srt K l mid b from (show mid=e by have:=HF.out;omega)▸H34.out.2)
       go_wp2
       all_goals
        go_end0
        have hd:=Ux.sym_done (StEq.refl (K:=K) l) HT1.out ⟨HF.out.2.2.2.2.2.2.1,by have:=HF.out.2.2.2.2.2.2.2.1;omega⟩ (StEq.refl (K:=K) _) (Out.refl _ a mid) HX.out (StEq.refl _) (Out.refl _ _ _) HY.out
        exact ⟨rfl,l,⟨hd.1,hd.2.1,H5.out.1,H5.out.2⟩,hd.2.2⟩
      ·have HY:=Lib.hid (show Srt K l mid b from (show e=b by have:=HF.out;omega)▸H34.out.1)
       go_wp2
       all_goals
        go_end0
        have hd:=Ux.sym_done (StEq.refl (K:=K) l) HT1.out ⟨HF.out.2.2.2.2.2.2.1,by have:=HF.out.2.2.2.2.2.2.2.1;omega⟩ (StEq.refl (K:=K) _) (Out.refl _ a mid) HX.out (StEq.refl _) (Out.refl _ _ _) HY.out
        exact ⟨rfl,l,⟨hd.1,hd.2.1,H5.out.1,H5.out.2⟩,hd.2.2⟩
     ·have HX:=Lib.hid (show Srt K l a mid from (show i=mid by have:=HF.out;omega)▸HT1.out.s1)
      have h3:Srt K l mid e:=HT1.out.s3.out (Out.refl _ a mid) (.inr (Nat.le_refl _))
      have h4:Srt K l e b:=HT1.out.s4.out (Out.refl _ a mid) (.inr HF.out.2.2.2.2.2.1)
      have H34:=Lib.hid (And.intro h3 h4)
      clear h3 h4
      have hcr:(((mid:Int)<e)∧((e:Int)<b))∨(¬((mid:Int)<e))∨(((mid:Int)<e)∧¬((e:Int)<b)):=by omega
      rcases hcr with ⟨q5,q6⟩|q5|⟨q5,q6⟩
      ·have HY:=Lib.hid (show b-mid≤D by have:=HAB.out;have:=HF.out;omega)
       go_wp2_with (go_at_call 168;fail)
       all_goals
        refine (IH.out mid e b l wr HY.out (by omega) (by omega) HH.out.2.2.2.1 H5.out.1 (HH.out.2.2.2.2.2.2.1.trans H5.out.2 fun k hk e=>by have:=HH.out.2.2.2.2.2.2.2;omega) (fun x hx=>HH.out.2.1 x ((StEq.refl (K:=K) l).mem ((StEq.refl (K:=K) _).mem hx))) H34.out.1 H34.out.2).mono ?_
        rintro z7 w7 ⟨rfl,t2,hA7,hS7⟩
        have H7:=Lib.hid (And.intro hA7 hS7)
        clear hA7 hS7
        go_wp2
        all_goals
         go_end0
         have hd:=Ux.sym_done (StEq.refl (K:=K) l) HT1.out ⟨HF.out.2.2.2.2.2.2.1,by have:=HF.out.2.2.2.2.2.2.2.1;omega⟩ (StEq.refl (K:=K) _) (Out.refl _ a mid) HX.out H7.out.1.eq H7.out.1.out H7.out.2
         exact ⟨rfl,t2,⟨hd.1,hd.2.1,H7.out.1.row,(H5.out.2.trans H7.out.1.touch fun _ _ h=>h)⟩,hd.2.2⟩
      ·have HY:=Lib.hid (show Srt K l mid b from (show mid=e by have:=HF.out;omega)▸H34.out.2)
       go_wp2
       all_goals
        go_end0
        have hd:=Ux.sym_done (StEq.refl (K:=K) l) HT1.out ⟨HF.out.2.2.2.2.2.2.1,by have:=HF.out.2.2.2.2.2.2.2.1;omega⟩ (StEq.refl (K:=K) _) (Out.refl _ a mid) HX.out (StEq.refl _) (Out.refl _ _ _) HY.out
        exact ⟨rfl,l,⟨hd.1,hd.2.1,H5.out.1,H5.out.2⟩,hd.2.2⟩
      ·have HY:=Lib.hid (show Srt K l mid b from (show e=b by have:=HF.out;omega)▸H34.out.1)
       go_wp2
       all_goals
        go_end0
        have hd:=Ux.sym_done (StEq.refl (K:=K) l) HT1.out ⟨HF.out.2.2.2.2.2.2.1,by have:=HF.out.2.2.2.2.2.2.2.1;omega⟩ (StEq.refl (K:=K) _) (Out.refl _ a mid) HX.out (StEq.refl _) (Out.refl _ _ _) HY.out
        exact ⟨rfl,l,⟨hd.1,hd.2.1,H5.out.1,H5.out.2⟩,hd.2.2⟩
    ·have hG:=(Rot.self l (s:=i) (m:=d) (e:=e) ⟨HF.out.2.1,HF.out.2.2.1⟩ (by have:=HF.out;omega)).good (K:=K) (by have:=HAB.out;have:=HH.out.2.2.2.1;omega) HF.out.1 HF.out.2.1 HF.out.2.2.1 HF.out.2.2.2.1 HF.out.2.2.2.2.2.2.2.2.1 HH.out.2.2.2.2.1 HH.out.2.2.2.2.2.1 HF.out.2.2.2.2.2.2.2.2.2.1 HF.out.2.2.2.2.2.2.2.2.2.2
     have HT1:=Lib.hid hG
     have H5:=Lib.hid (And.intro (HH.out.1.touch HI.out.2.2 (fun f=>f)) (HI.out.2.2.mono fun _ _ f=>f.elim:Ux.Touch (fun k=>k=g) w wr))
     clear hG
     have hcl:(((a:Int)<i)∧((i:Int)<mid))∨(¬((a:Int)<i))∨(((a:Int)<i)∧¬((i:Int)<mid)):=by omega
     rcases hcl with ⟨q3,q4⟩|q3|⟨q3,q4⟩
     ·have HX:=Lib.hid (show mid-a≤D by have:=HAB.out;have:=HF.out;omega)
      go_wp2_with (go_at_call 168;fail)
      refine (IH.out a i mid l wr HX.out (by omega) (by omega) (by have:=HF.out;have:=HH.out.2.2.2.1;omega) H5.out.1 (HH.out.2.2.2.2.2.2.1.trans H5.out.2 fun k hk e=>by have:=HH.out.2.2.2.2.2.2.2;omega) (fun x hx=>HH.out.2.1 x ((StEq.refl (K:=K) l).mem hx)) HT1.out.s1 HT1.out.s2).mono ?_
      rintro z6 w6 ⟨rfl,t1,hA6,hS6⟩
      have H6:=Lib.hid (And.intro hA6 hS6)
      clear hA6 hS6
      have h3:Srt K t1 mid e:=HT1.out.s3.out H6.out.1.out (.inr (Nat.le_refl _))
      have h4:Srt K t1 e b:=HT1.out.s4.out H6.out.1.out (.inr HF.out.2.2.2.2.2.1)
      have H34:=Lib.hid (And.intro h3 h4)
      clear h3 h4
      have hcr:(((mid:Int)<e)∧((e:Int)<b))∨(¬((mid:Int)<e))∨(((mid:Int)<e)∧¬((e:Int)<b)):=by omega
      rcases hcr with ⟨q5,q6⟩|q5|⟨q5,q6⟩
      ·have HY:=Lib.hid (show b-mid≤D by have:=HAB.out;have:=HF.out;omega)
       go_wp2_with (go_at_call 168;fail)
       all_goals
        refine (IH.out mid e b t1 w6 HY.out (by omega) (by omega) HH.out.2.2.2.1 H6.out.1.row (HH.out.2.2.2.2.2.2.1.trans (H5.out.2.trans H6.out.1.touch fun _ _ h=>h) fun k hk e=>by have:=HH.out.2.2.2.2.2.2.2;omega) (fun x hx=>HH.out.2.1 x ((StEq.refl (K:=K) l).mem (H6.out.1.eq.mem hx))) H34.out.1 H34.out.2).mono ?_
        rintro z7 w7 ⟨rfl,t2,hA7,hS7⟩
        have H7:=Lib.hid (And.intro hA7 hS7)
        clear hA7 hS7
        go_wp2
        all_goals
         go_end0
         have hd:=Ux.sym_done (StEq.refl (K:=K) l) HT1.out ⟨HF.out.2.2.2.2.2.2.1,by have:=HF.out.2.2.2.2.2.2.2.1;omega⟩ H6.out.1.eq H6.out.1.out H6.out.2 H7.out.1.eq H7.out.1.out H7.out.2
         exact ⟨rfl,t2,⟨hd.1,hd.2.1,H7.out.1.row,((H5.out.2.trans H6.out.1.touch fun _ _ h=>h).trans H7.out.1.touch fun _ _ h=>h)⟩,hd.2.2⟩
      ·have HY:=Lib.hid (show Srt K t1 mid b from (show mid=e by have:=HF.out;omega)▸H34.out.2)
       go_wp2
       all_goals
        go_end0
        have hd:=Ux.sym_done (StEq.refl (K:=K) l) HT1.out ⟨HF.out.2.2.2.2.2.2.1,by have:=HF.out.2.2.2.2.2.2.2.1;omega⟩ H6.out.1.eq H6.out.1.out H6.out.2 (StEq.refl _) (Out.refl _ _ _) HY.out
        exact ⟨rfl,t1,⟨hd.1,hd.2.1,H6.out.1.row,(H5.out.2.trans H6.out.1.touch fun _ _ h=>h)⟩,hd.2.2⟩
      ·have HY:=Lib.hid (show Srt K t1 mid b from (show e=b by have:=HF.out;omega)▸H34.out.1)
       go_wp2
       all_goals
        go_end0
        have hd:=Ux.sym_done (StEq.refl (K:=K) l) HT1.out ⟨HF.out.2.2.2.2.2.2.1,by have:=HF.out.2.2.2.2.2.2.2.1;omega⟩ H6.out.1.eq H6.out.1.out H6.out.2 (StEq.refl _) (Out.refl _ _ _) HY.out
        exact ⟨rfl,t1,⟨hd.1,hd.2.1,H6.out.1.row,(H5.out.2.trans H6.out.1.touch fun _ _ h=>h)⟩,hd.2.2⟩
     ·have HX:=Lib.hid (show Srt K l a mid from (show i=a by have:=HF.out;omega)▸HT1.out.s2)
      have h3:Srt K l mid e:=HT1.out.s3.out (Out.refl _ a mid) (.inr (Nat.le_refl _))
      have h4:Srt K l e b:=HT1.out.s4.out (Out.refl _ a mid) (.inr HF.out.2.2.2.2.2.1)
      have H34:=Lib.hid (And.intro h3 h4)
      clear h3 h4
      have hcr:(((mid:Int)<e)∧((e:Int)<b))∨(¬((mid:Int)<e))∨(((mid:Int)<e)∧¬((e:Int)<b)):=by omega
      rcases hcr with ⟨q5,q6⟩|q5|⟨q5,q6⟩
      ·have HY:=Lib.hid (show b-mid≤D by have:=HAB.out;have:=HF.out;omega)
       go_wp2_with (go_at_call 168;fail)
       all_goals
        refine (IH.out mid e b l wr HY.out (by omega) (by omega) HH.out.2.2.2.1 H5.out.1 (HH.out.2.2.2.2.2.2.1.trans H5.out.2 fun k hk e=>by have:=HH.out.2.2.2.2.2.2.2;omega) (fun x hx=>HH.out.2.1 x ((StEq.refl (K:=K) l).mem ((StEq.refl (K:=K) _).mem hx))) H34.out.1 H34.out.2).mono ?_
        rintro z7 w7 ⟨rfl,t2,hA7,hS7⟩
        have H7:=Lib.hid (And.intro hA7 hS7)
        clear hA7 hS7
        go_wp2
        all_goals
         go_end0
         have hd:=Ux.sym_done (StEq.refl (K:=K) l) HT1.out ⟨HF.out.2.2.2.2.2.2.1,by have:=HF.out.2.2.2.2.2.2.2.1;omega⟩ (StEq.refl (K:=K) _) (Out.refl _ a mid) HX.out H7.out.1.eq H7.out.1.out H7.out.2
         exact ⟨rfl,t2,⟨hd.1,hd.2.1,H7.out.1.row,(H5.out.2.trans H7.out.1.touch fun _ _ h=>h)⟩,hd.2.2⟩
      ·have HY:=Lib.hid (show Srt K l mid b from (show mid=e by have:=HF.out;omega)▸H34.out.2)
       go_wp2
       all_goals
        go_end0
        have hd:=Ux.sym_done (StEq.refl (K:=K) l) HT1.out ⟨HF.out.2.2.2.2.2.2.1,by have:=HF.out.2.2.2.2.2.2.2.1;omega⟩ (StEq.refl (K:=K) _) (Out.refl _ a mid) HX.out (StEq.refl _) (Out.refl _ _ _) HY.out
        exact ⟨rfl,l,⟨hd.1,hd.2.1,H5.out.1,H5.out.2⟩,hd.2.2⟩
      ·have HY:=Lib.hid (show Srt K l mid b from (show e=b by have:=HF.out;omega)▸H34.out.1)
       go_wp2
       all_goals
        go_end0
        have hd:=Ux.sym_done (StEq.refl (K:=K) l) HT1.out ⟨HF.out.2.2.2.2.2.2.1,by have:=HF.out.2.2.2.2.2.2.2.1;omega⟩ (StEq.refl (K:=K) _) (Out.refl _ a mid) HX.out (StEq.refl _) (Out.refl _ _ _) HY.out
        exact ⟨rfl,l,⟨hd.1,hd.2.1,H5.out.1,H5.out.2⟩,hd.2.2⟩
     ·have HX:=Lib.hid (show Srt K l a mid from (show i=mid by have:=HF.out;omega)▸HT1.out.s1)
      have h3:Srt K l mid e:=HT1.out.s3.out (Out.refl _ a mid) (.inr (Nat.le_refl _))
      have h4:Srt K l e b:=HT1.out.s4.out (Out.refl _ a mid) (.inr HF.out.2.2.2.2.2.1)
      have H34:=Lib.hid (And.intro h3 h4)
      clear h3 h4
      have hcr:(((mid:Int)<e)∧((e:Int)<b))∨(¬((mid:Int)<e))∨(((mid:Int)<e)∧¬((e:Int)<b)):=by omega
      rcases hcr with ⟨q5,q6⟩|q5|⟨q5,q6⟩
      ·have HY:=Lib.hid (show b-mid≤D by have:=HAB.out;have:=HF.out;omega)
       go_wp2_with (go_at_call 168;fail)
       all_goals
        refine (IH.out mid e b l wr HY.out (by omega) (by omega) HH.out.2.2.2.1 H5.out.1 (HH.out.2.2.2.2.2.2.1.trans H5.out.2 fun k hk e=>by have:=HH.out.2.2.2.2.2.2.2;omega) (fun x hx=>HH.out.2.1 x ((StEq.refl (K:=K) l).mem ((StEq.refl (K:=K) _).mem hx))) H34.out.1 H34.out.2).mono ?_
        rintro z7 w7 ⟨rfl,t2,hA7,hS7⟩
        have H7:=Lib.hid (And.intro hA7 hS7)
        clear hA7 hS7
        go_wp2
        all_goals
         go_end0
         have hd:=Ux.sym_done (StEq.refl (K:=K) l) HT1.out ⟨HF.out.2.2.2.2.2.2.1,by have:=HF.out.2.2.2.2.2.2.2.1;omega⟩ (StEq.refl (K:=K) _) (Out.refl _ a mid) HX.out H7.out.1.eq H7.out.1.out H7.out.2
         exact ⟨rfl,t2,⟨hd.1,hd.2.1,H7.out.1.row,(H5.out.2.trans H7.out.1.touch fun _ _ h=>h)⟩,hd.2.2⟩
      ·have HY:=Lib.hid (show Srt K l mid b from (show mid=e by have:=HF.out;omega)▸H34.out.2)
       go_wp2
       all_goals
        go_end0
        have hd:=Ux.sym_done (StEq.refl (K:=K) l) HT1.out ⟨HF.out.2.2.2.2.2.2.1,by have:=HF.out.2.2.2.2.2.2.2.1;omega⟩ (StEq.refl (K:=K) _) (Out.refl _ a mid) HX.out (StEq.refl _) (Out.refl _ _ _) HY.out
        exact ⟨rfl,l,⟨hd.1,hd.2.1,H5.out.1,H5.out.2⟩,hd.2.2⟩
      ·have HY:=Lib.hid (show Srt K l mid b from (show e=b by have:=HF.out;omega)▸H34.out.1)
       go_wp2
       all_goals
        go_end0
        have hd:=Ux.sym_done (StEq.refl (K:=K) l) HT1.out ⟨HF.out.2.2.2.2.2.2.1,by have:=HF.out.2.2.2.2.2.2.2.1;omega⟩ (StEq.refl (K:=K) _) (Out.refl _ a mid) HX.out (StEq.refl _) (Out.refl _ _ _) HY.out
        exact ⟨rfl,l,⟨hd.1,hd.2.1,H5.out.1,H5.out.2⟩,hd.2.2⟩
end Go.Proofs.YtfccjaboicpohaaGreatDoor
namespace Go.Proofs.YtfccjaboicpohaaGreatDoor
open Go.RowKit
open Ux (Srt)
theorem sym_ (g N c:Nat) (cs:Value) (K:ByteArray→ByteArray) (w0:World) (hN:N≤1000000) (hC:CmpOk w0 cs K) (hg:w0.heap.size≤g): ∀D,SymAll g N c cs K w0 D
 |0=>fun a d b l w hD had hdb _ _ _ _ _ _=>absurd hD (by omega)
 |D+1=>fun a d b l w hD had hdb hb h hT hs sl sr=>by
  by_cases hA:a+1=d
  ·exact symA_ g N c cs K w0 l a d b w hA h hN hdb hb hC hg hT hs sr
  by_cases hB:d+1=b
  ·exact symB_ g N c cs K w0 l a d b w hB h hN (by omega) hb hC hg hT hs sl
  by_cases hm:(a+b)/2<d
  ·exact symCA_ g N c cs K w0 hN hC hg D (sym_ g N c cs K w0 hN hC hg D) a d b l w hD had hdb hb h hT hs sl sr hA hB hm
  ·exact symCB_ g N c cs K w0 hN hC hg D (sym_ g N c cs K w0 hN hC hg D) a d b l w hD had hdb hb h hT hs sl sr hA hB hm
end Go.Proofs.YtfccjaboicpohaaGreatDoor
