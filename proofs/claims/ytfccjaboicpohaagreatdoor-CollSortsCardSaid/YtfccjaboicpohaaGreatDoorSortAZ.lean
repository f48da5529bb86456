/- A part of the proof that the statement holds for every input that it names. No other condition. -/
import Derived.Test.YtfccjaboicpohaaGreatDoorUxSrtAZ
import Derived.Test.YtfccjaboicpohaaGreatDoorSignAZ
import Derived.Test.YtfccjaboicpohaaGreatDoorCollAZ
set_option linter.unusedVariables false
set_option linter.unusedSimpArgs false
namespace Go.Proofs.YtfccjaboicpohaaGreatDoor
open Go.RowKit
open Ux (Row swp SwR)
def tv (l:List ByteArray):List Value:=l.map Value.string
theorem tv_length (l:List ByteArray):(tv l).length=l.length:=by simp [tv]
theorem tv_get {l:List ByteArray} {i:Nat} {x:ByteArray} (h:l[i]? =some x):(tv l)[i]? =some (.string x):=by unfold tv;rw [List.getElem?_map,h];rfl
theorem tv_set (l:List ByteArray) (i:Nat) (x:ByteArray):(tv l).set i (.string x)=tv (l.set i x):=by unfold tv;rw [List.map_set]
def TRow (w:World) (g N c:Nat) (l:List ByteArray):Prop:=l.length=N∧Row w 0 9 (.slice (some ⟨g,0,none⟩) N c) (tv l)
theorem TRow.cell {w:World} {g N c:Nat} {l:List ByteArray} (h:TRow w g N c l) {j:Nat} {x:ByteArray} (hj:l[j]? =some x):w.cell? ⟨g,j,none⟩=some (.string x):=by
 obtain ⟨g',e,_,h'⟩:=h.2.at (tv_get hj)
 cases e
 exact h'
theorem TRow.touch {R:Nat→Prop} {w w':World} {g N c:Nat} {l:List ByteArray} (h:TRow w g N c l) (T:Ux.Touch R w w') (hg: ¬R g):TRow w' g N c l:=⟨h.1,h.2.touch T fun b _ hb=>by cases hb;exact hg⟩
theorem TRow.put {w:World} {g N c:Nat} {l:List ByteArray} (h:TRow w g N c l) (j:Nat) (x:ByteArray):TRow (w.setCell ⟨g,j,none⟩ (.string x)) g N c (l.set j x):=⟨by rw [List.length_set];exact h.1,by rw [←tv_set];exact h.2.set j _⟩
theorem TRow.frozen {w:World} {g N c:Nat} {l:List ByteArray} (h:TRow w g N c l) (j:Nat):w.frozen? ⟨g,j,none⟩=false:=h.2.frozen j
theorem get_lt {l:List ByteArray} {i:Nat} (h:i<l.length): ∃x,l[i]? =some x:=⟨_,List.getElem?_eq_getElem h⟩
set_option maxHeartbeats 4000000 in
set_option maxRecDepth 100000 in
theorem swapR_ (g N c:Nat) (cv:Value) (l:List ByteArray) (a b n:Nat) (w:World) (h:TRow w g N c l) (hN:N≤1000000) (hab:a+n≤b) (hb:b+n≤N):
 Calls Tryz.prog 232 #[.slice (some ⟨g,0,none⟩) N c,.int .i64 a,.int .i64 b,.int .i64 n,cv] w fun e w'=>e= .returned (.tuple #[])∧∃m,SwR l m a b n∧TRow w' g N c m∧Ux.Touch (fun k=>k=g) w w':=by
 have HH:=Lib.hid h
 have n0:(n:Int)≤1000000:=by omega
 have N0:(N:Int)≤1000000:=by omega
 clear h
 go_enter Tryz.func232,Tryz.ntmps232
 go_wp2
 go_loopg [10] n (fun gk s10 wr=> ∃i:Nat,s10= .int .i64 i∧i+gk=n∧Hid (∃m,SwR l m a b i∧TRow wr g N c m∧Ux.Touch (fun k=>k=g) w wr))
 case atStart=>exact ⟨0,rfl,by omega,Lib.hid ⟨l,SwR.zero _ _ _,HH.out,Ux.Touch.refl _ _⟩⟩
 case round=>
  obtain ⟨i,rfl,hig,HI⟩:=hrel
  have i0:(0:Int)≤i:=by omega
  by_cases hlt:i<n
  ·obtain ⟨g',rfl⟩: ∃g',gk=g'+1:=⟨gk-1,by omega⟩
   have i1:(i:Int)<n:=by omega
   obtain ⟨m,hS,hR,hT⟩:=HI.out
   have hml:m.length=N:=hR.1
   have hll:l.length=N:=HH.out.1
   obtain ⟨p,hp⟩: ∃p,a+i=p:=⟨_,rfl⟩
   obtain ⟨q,hq⟩: ∃q,b+i=q:=⟨_,rfl⟩
   obtain ⟨x,hx⟩:=get_lt (l:=m) (i:=p) (by omega)
   obtain ⟨y,hy⟩:=get_lt (l:=m) (i:=q) (by omega)
   have hst:=hS.step (x:=x) (y:=y) (by omega) (by omega) (by rw [hp];exact hx) (by rw [hq];exact hy)
   rw [hp,hq] at hst
   have pI:(a:Int)+i=p:=by omega
   have qI:(b:Int)+i=q:=by omega
   have p0:(0:Int)≤p:=by omega
   have q0:(0:Int)≤q:=by omega
   have p1:(p:Int)<N:=by omega
   have q1:(q:Int)<N:=by omega
   have c1:=hR.cell hx
   have c2:=hR.cell hy
   have f1:=hR.frozen p
   have f2:=hR.frozen q
   have HF:=Lib.hid (And.intro hst (And.intro ((hR.touch ((Ux.Touch.refl (fun _=>False) wr).drew) (fun f=>f)).put p y|>.put q x) (((hT.trans ((Ux.Touch.refl (fun _=>False) wr).drew) fun _ _ f=>f.elim).setCell (p:=⟨g,p,none⟩) (fun _=>rfl) (.string y)).setCell (p:=⟨g,q,none⟩) (fun _=>rfl) (.string x))))
   clear hS hR hT hml hll hp hq hx hy hst hlt HI
   go_upto_region 3 with (fail)
   refine Ux.wpr (fun _ w'=>w'.cell? ⟨g,p,none⟩=some (.string x)∧w'.cell? ⟨g,q,none⟩=some (.string y)) (.q [0,1,2,3,4,5,6,7,8,9,10,11,12,14,15,16,17,18] (.h false [13,19] (.q [20] (.e 21 false false (.line [22,23]))))) ?_;repeat ((with_reducible refine Ux.qg ?_);refine Ux.qu ?_)
   go_wp2
   go_roundg g'
   case measure=>omega
   case rel=>exact ⟨i+1,rfl,by omega,Lib.hid ⟨_,HF.out.1,HF.out.2.1,HF.out.2.2⟩⟩
  ·obtain rfl:i=n:=by omega
   have i1: ¬(i:Int)<i:=by omega
   clear hlt
   go_wp2
   go_end0
   exact ⟨rfl,HI.out⟩
set_option maxHeartbeats 4000000 in
set_option maxRecDepth 100000 in
theorem rot_ (g N c:Nat) (cv:Value) (X U V Y:List ByteArray) (a m b:Nat) (w:World) (h:TRow w g N c (X++(U++(V++Y)))) (hN:N≤1000000) (h1:X.length=a) (h2:a+U.length=m) (h3:m+V.length=b) (hu:0<U.length) (hv:0<V.length):
 Calls Tryz.prog 209 #[.slice (some ⟨g,0,none⟩) N c,.int .i64 a,.int .i64 m,.int .i64 b,cv] w fun e w'=>e= .returned (.tuple #[])∧TRow w' g N c (X++(V++(U++Y)))∧Ux.Touch (fun k=>k=g) w w':=by
 obtain ⟨Z,hZ⟩: ∃Z,X++(V++(U++Y))=Z:=⟨_,rfl⟩
 have hNl:=h.1
 simp only [List.length_append] at hNl
 have HH:=Lib.hid (And.intro h (And.intro h1 (And.intro h2 (And.intro h3 hZ))))
 have a0:(0:Int)≤a:=by omega
 have m0:(m:Int)<N:=by omega
 have b0:(b:Int)≤N:=by omega
 have am:(a:Int)<m:=by omega
 have mb:(m:Int)<b:=by omega
 have N0:(N:Int)≤1000000:=by omega
 obtain ⟨i,hi⟩: ∃i,U.length=i:=⟨_,rfl⟩
 obtain ⟨j,hj⟩: ∃j,V.length=j:=⟨_,rfl⟩
 have iI:(m:Int)-a=i:=by omega
 have jI:(b:Int)-m=j:=by omega
 rw [hZ]
 have HL:=Lib.hid (And.intro hi hj)
 rw [hi] at hu
 rw [hj] at hv
 have HS:=Lib.hid fun (l:List ByteArray) (a b n:Nat) W h h1 h2=>swapR_ g N c cv l a b n W h hN h1 h2
 clear h hNl h1 h2 h3 hZ hi hj hN
 go_enter Tryz.func209,Tryz.ntmps209
 go_wp2
 go_loopg [10,11] (i+j) (fun gk s10 s11 wr=> ∃i' j':Nat,s10= .int .i64 i'∧s11= .int .i64 j'∧i'+j'≤gk∧0<i'∧0<j'∧i'≤m∧m+j'≤N∧Hid (Ux.Touch (fun k=>k=g) w wr∧∃A P Q B,TRow wr g N c (A++(P++(Q++B)))∧P.length=i'∧Q.length=j'∧A.length+i'=m∧A++(Q++(P++B))=Z))
 case atStart=>exact ⟨i,j,rfl,rfl,by omega,hu,hv,by omega,by omega,Lib.hid ⟨Ux.Touch.refl _ _,X,U,V,Y,HH.out.1,HL.out.1,HL.out.2,by have:=HH.out.2.1;have:=HH.out.2.2.1;have:=HL.out.1;omega,HH.out.2.2.2.2⟩⟩
 case round=>
  obtain ⟨i',j',rfl,rfl,hig,hi0,hj0,him,hjm,HI⟩:=hrel
  obtain ⟨hT,A,P,Q,B,hR,hP,hQ,hA,hZ'⟩:=HI.out
  have i0:(0:Int)<i':=by omega
  have j0:(0:Int)<j':=by omega
  obtain ⟨p,hp⟩: ∃p,m-i'=p:=⟨_,rfl⟩
  have pI:(m:Int)-i'=p:=by omega
  have hi1:(i':Int)≤1000000:=by omega
  have hj1:(j':Int)≤1000000:=by omega
  by_cases heq:i'=j'
  ·subst heq
   have e1:((i':Int)==i')=true:=by simp
   have hlen:=hR.1
   have HC:=Lib.hid (HS.out _ p m i' wr hR (by omega) (by omega))
   have HE:=Lib.hid fun mm (h:SwR (A++(P++(Q++B))) mm p m i')=>show mm=Z from by
    have e2:A++(P++(Q++B))=A++(P++([]++(Q++B))):=rfl
    rw [e2] at h
    have e3:p=A.length:=by omega
    have e4:m=A.length+P.length+([]:List ByteArray).length:=by simp;omega
    rw [e3,e4,←hP] at h
    rw [h.blocks (by omega)]
    exact hZ'
   have H1:=Lib.hid hT
   clear hT hR hP hQ hA hZ' hlen hp HI
   go_wp2_with (go_at_call 232;fail)
   refine HC.out.mono ?_
   rintro e w4 ⟨rfl,mm,hS,hR,T⟩
   have HX:=Lib.hid (And.intro (HE.out mm hS) (And.intro hR (H1.out.trans T fun _ _ f=>f)))
   clear hS hR T
   go_wp2
   go_end0
   exact ⟨rfl,by have:=HX.out.2.1;rw [HX.out.1] at this;exact this,HX.out.2.2⟩
  ·have e1:((i':Int)==j')=false:=by simp;omega
   by_cases hgt:j'<i'
   ·obtain ⟨g',rfl⟩: ∃g',gk=g'+1:=⟨gk-1,by omega⟩
    have e2:((i':Int)>j'):=by omega
    obtain ⟨d,hd⟩: ∃d,i'-j'=d:=⟨_,rfl⟩
    have dI:(i':Int)-j'=d:=by omega
    have hlen:=hR.1
    have HC:=Lib.hid (HS.out _ p m j' wr hR (by omega) (by simp at hlen;omega))
    have HE:=Lib.hid fun mm (h:SwR (A++(P++(Q++B))) mm p m j')=>show∃A' P' Q' B',mm=A'++(P'++(Q'++B'))∧P'.length=d∧Q'.length=j'∧A'.length+d=m∧A'++(Q'++(P'++B'))=Z from by
     have eP:P=P.take j'++P.drop j':=(List.take_append_drop _ _).symm
     have hl1:(P.take j').length=j':=by rw [List.length_take];omega
     have hl2:(P.drop j').length=d:=by rw [List.length_drop];omega
     have e2:A++(P++(Q++B))=A++(P.take j'++(P.drop j'++(Q++B))):=by rw [←List.append_assoc (P.take j'),←eP]
     rw [e2] at h
     have e3:p=A.length:=by omega
     have e4:m=A.length+(P.take j').length+(P.drop j').length:=by omega
     rw [e3,e4] at h
     have h':SwR (A++(P.take j'++(P.drop j'++(Q++B)))) mm A.length (A.length+(P.take j').length+(P.drop j').length) (P.take j').length:=by rw [hl1] at h⊢;exact h
     refine ⟨A++Q,P.drop j',P.take j',B,?_,hl2,hl1,?_,?_⟩
     ·rw [h'.blocks (by omega),List.append_assoc]
     ·rw [List.length_append];omega
     ·rw [List.append_assoc,←List.append_assoc (P.take j'),←eP];exact hZ'
    have H1:=Lib.hid hT
    clear hT hR hP hQ hA hZ' hlen hp HI
    go_wp2_with (go_at_call 232;fail)
    refine HC.out.mono ?_
    rintro e w4 ⟨rfl,mm,hS,hR,T⟩
    have HX:=Lib.hid (And.intro (HE.out mm hS) (And.intro hR (H1.out.trans T fun _ _ f=>f)))
    clear hS hR T
    go_wp2
    go_roundg g'
    case measure=>omega
    case rel=>
     obtain ⟨⟨A',P',Q',B',q1,q2,q3,q4,q5⟩,hR,T⟩:=HX.out
     rw [q1] at hR
     exact ⟨d,j',rfl,rfl,by omega,by omega,by omega,by omega,by omega,Lib.hid ⟨T,A',P',Q',B',hR,q2,q3,q4,q5⟩⟩
   ·obtain ⟨g',rfl⟩: ∃g',gk=g'+1:=⟨gk-1,by omega⟩
    have e2: ¬((i':Int)>j'):=by omega
    obtain ⟨d,hd⟩: ∃d,j'-i'=d:=⟨_,rfl⟩
    have dI:(j':Int)-i'=d:=by omega
    obtain ⟨s,hs⟩: ∃s,m+j'=s:=⟨_,rfl⟩
    have sI:(m:Int)+j'=s:=by omega
    obtain ⟨q,hq⟩: ∃q,s-i'=q:=⟨_,rfl⟩
    have qI:(s:Int)-i'=q:=by omega
    have hlen:=hR.1
    have HC:=Lib.hid (HS.out _ p q i' wr hR (by omega) (by omega))
    have HE:=Lib.hid fun mm (h:SwR (A++(P++(Q++B))) mm p q i')=>show∃A' P' Q' B',mm=A'++(P'++(Q'++B'))∧P'.length=i'∧Q'.length=d∧A'.length+i'=m∧A'++(Q'++(P'++B'))=Z from by
     have eQ:Q=Q.take d++Q.drop d:=(List.take_append_drop _ _).symm
     have hl1:(Q.take d).length=d:=by rw [List.length_take];omega
     have hl2:(Q.drop d).length=i':=by rw [List.length_drop];omega
     have e2:A++(P++(Q++B))=A++(P++(Q.take d++(Q.drop d++B))):=by rw [←List.append_assoc (Q.take d),←eQ]
     rw [e2] at h
     have e3:p=A.length:=by omega
     have e4:q=A.length+P.length+(Q.take d).length:=by omega
     rw [e3,e4] at h
     have h':SwR (A++(P++(Q.take d++(Q.drop d++B)))) mm A.length (A.length+P.length+(Q.take d).length) P.length:=by rw [hP] at h⊢;exact h
     refine ⟨A,Q.drop d,Q.take d,P++B,?_,hl2,hl1,hA,?_⟩
     ·rw [h'.blocks (by omega)]
     ·rw [←hZ',←List.append_assoc (Q.take d),←eQ]
    have H1:=Lib.hid hT
    clear hT hR hP hQ hA hZ' hlen hp hs hq HI
    go_wp2_with (go_at_call 232;fail)
    refine HC.out.mono ?_
    rintro e w4 ⟨rfl,mm,hS,hR,T⟩
    have HX:=Lib.hid (And.intro (HE.out mm hS) (And.intro hR (H1.out.trans T fun _ _ f=>f)))
    clear hS hR T
    go_wp2
    go_roundg g'
    case measure=>omega
    case rel=>
     obtain ⟨⟨A',P',Q',B',q1,q2,q3,q4,q5⟩,hR,T⟩:=HX.out
     rw [q1] at hR
     exact ⟨i',d,rfl,rfl,by omega,by omega,by omega,by omega,by omega,Lib.hid ⟨T,A',P',Q',B',hR,q2,q3,q4,q5⟩⟩
end Go.Proofs.YtfccjaboicpohaaGreatDoor
namespace Go.Proofs.YtfccjaboicpohaaGreatDoor
open Go.RowKit
open Ux (Row swp SwR StEq Srt Out InsI kLt slt)
def CmpOk (w0:World) (cs:Value) (K:ByteArray→ByteArray):Prop:= ∀(a b:ByteArray) (W:World),Ux.Touch (fun _=>False) w0 W→a.size≤1000000→b.size≤1000000→
 Calls Tryz.prog 29 #[cs,.string a,.string b] W fun e w'=>e= .returned (.int .i64 (cmpStr (K a) (K b)))∧Ux.Touch (fun _=>False) W w'
theorem cmp_lt {K:ByteArray→ByteArray} {a b:ByteArray} (h:kLt K a b=true):cmpStr (K a) (K b)<0:=by
 unfold cmpStr
 have:slt (K a) (K b)=true:=h
 rw [this,if_pos rfl]
 decide
theorem cmp_ge {K:ByteArray→ByteArray} {a b:ByteArray} (h:kLt K a b=false): ¬cmpStr (K a) (K b)<0:=by
 unfold cmpStr
 have:slt (K a) (K b)=false:=h
 rw [this]
 cases slt (K b) (K a)<;>decide
structure SAt (K:ByteArray→ByteArray) (g N c:Nat) (w:World) (l:List ByteArray) (a b:Nat) (m:List ByteArray) (w':World):Prop where
 eq:StEq K l m
 out:Out l m a b
 row:TRow w' g N c m
 touch:Ux.Touch (fun k=>k=g) w w'
theorem SAt.start {K:ByteArray→ByteArray} {g N c:Nat} {w:World} {l:List ByteArray} (a b:Nat) (h:TRow w g N c l):SAt K g N c w l a b l w:=⟨StEq.refl _,Out.refl _ _ _,h,Ux.Touch.refl _ _⟩
theorem SAt.calm {K:ByteArray→ByteArray} {g N c:Nat} {w w1 w2:World} {l m:List ByteArray} {a b:Nat} (h:SAt K g N c w l a b m w1) (T:Ux.Touch (fun _=>False) w1 w2):SAt K g N c w l a b m w2:=⟨h.eq,h.out,h.row.touch T (fun f=>f),h.touch.trans T fun _ _ f=>f.elim⟩
theorem SAt.swap {K:ByteArray→ByteArray} {g N c:Nat} {w w1:World} {l m:List ByteArray} {a b:Nat} (h:SAt K g N c w l a b m w1) {i:Nat} {x y:ByteArray} (hx:m[i]? =some x) (hy:m[i+1]? =some y) (hlt:kLt K y x=true) (ha:a≤i) (hb:i+1<b):
 SAt K g N c w l a b (swp m i (i+1) x y) ((w1.setCell ⟨g,i,none⟩ (.string y)).setCell ⟨g,i+1,none⟩ (.string x)):=
 ⟨h.eq.trans (Ux.swp_steq hx hy hlt),h.out.trans (Ux.swp_out (List.getElem?_eq_some_iff.1 hx).1 (List.getElem?_eq_some_iff.1 hy).1 (by omega) (by omega)),(h.row.put i y).put (i+1) x,
   (h.touch.setCell (p:=⟨g,i,none⟩) (fun _=>rfl) _).setCell (p:=⟨g,i+1,none⟩) (fun _=>rfl) _⟩
theorem SAt.swap' {K:ByteArray→ByteArray} {g N c:Nat} {w w1:World} {l m:List ByteArray} {a b:Nat} (h:SAt K g N c w l a b m w1) {i:Nat} {x y:ByteArray} (hx:m[i]? =some x) (hy:m[i+1]? =some y) (hlt:kLt K y x=true) (ha:a≤i) (hb:i+1<b):
 SAt K g N c w l a b (swp m i (i+1) x y) ((w1.setCell ⟨g,i+1,none⟩ (.string x)).setCell ⟨g,i,none⟩ (.string y)):=
 ⟨h.eq.trans (Ux.swp_steq hx hy hlt),h.out.trans (Ux.swp_out (List.getElem?_eq_some_iff.1 hx).1 (List.getElem?_eq_some_iff.1 hy).1 (by omega) (by omega)),by rw [Ux.swp_comm _ _ _ _ _ (by omega)];exact (h.row.put (i+1) x).put i y,
   (h.touch.setCell (p:=⟨g,i+1,none⟩) (fun _=>rfl) _).setCell (p:=⟨g,i,none⟩) (fun _=>rfl) _⟩
theorem SAt.sizes {K:ByteArray→ByteArray} {g N c:Nat} {w w1:World} {l m:List ByteArray} {a b:Nat} (h:SAt K g N c w l a b m w1) (hs: ∀x∈l,x.size≤1000000) {i:Nat} {x:ByteArray} (hx:m[i]? =some x):x.size≤1000000:=hs x (h.eq.mem (List.mem_of_getElem? hx))
set_option maxHeartbeats 8000000 in
set_option maxRecDepth 100000 in
theorem ins_ (g N c:Nat) (cs:Value) (K:ByteArray→ByteArray) (w0:World) (l:List ByteArray) (a b:Nat) (w:World) (h:TRow w g N c l) (hN:N≤1000000) (ha:a≤N) (hb:b≤N) (hC:CmpOk w0 cs K) (hg:w0.heap.size≤g) (hT:Ux.Touch (fun _=>False) w0 w) (hs: ∀x∈l,x.size≤1000000):
 Calls Tryz.prog 167 #[.slice (some ⟨g,0,none⟩) N c,.int .i64 a,.int .i64 b,.func (.func 29) #[cs] #[]] w fun e w'=>e= .returned (.tuple #[])∧∃m,SAt K g N c w l a b m w'∧Srt K m a b:=by
 have N0:(N:Int)≤1000000:=by omega
 have a0:(a:Int)≤N:=by omega
 have b0:(b:Int)≤N:=by omega
 have a1:(0:Int)≤a:=by omega
 have HH:=Lib.hid (And.intro h (And.intro hs (And.intro hN (And.intro ha hb))))
 have HC:=Lib.hid fun x y W (T:Ux.Touch (fun k=>k=g) w W)=>hC x y W (hT.trans T fun k hk e=>by omega)
 obtain ⟨d,hd⟩: ∃d,a+1=d:=⟨_,rfl⟩
 have dI:(a:Int)+1=d:=by omega
 have HD:=Lib.hid hd
 clear h hC hg hT hs hN ha hb hd
 go_enter Tryz.func167,Tryz.ntmps167
 go_wp2
 go_loopg [8] b (fun gk s8 wr=> ∃i:Nat,s8= .int .i64 i∧a+1≤i∧(i≤b∨i=a+1)∧b≤i+gk∧Hid (∃m,SAt K g N c w l a b m wr∧Srt K m a i))
 case atStart=>exact ⟨d,rfl,by have:=HD.out;omega,.inr HD.out.symm,by omega,Lib.hid ⟨l,SAt.start _ _ HH.out.1,Srt.empty _ (by have:=HD.out;omega)⟩⟩
 case round=>
  obtain ⟨i,rfl,hi1,hi2,hig,HI⟩:=hrel
  have i0:(0:Int)≤i:=by omega
  by_cases hlt:i<b
  ·obtain ⟨g',rfl⟩: ∃g',gk=g'+1:=⟨gk-1,by omega⟩
   have i1:(i:Int)<b:=by omega
   have i2:(i:Int)<N:=by have:=HH.out.2.2.2.2;omega
   have HX:=Lib.hid (And.intro hi1 (And.intro hlt hig))
   clear hi1 hi2 hlt hig
   go_wp2_with (fail)
   go_loopg [9] i (fun gk s9 wr=> ∃j:Nat,s9= .int .i64 j∧a≤j∧j≤i∧j≤a+gk∧Hid (∃m,SAt K g N c w l a b m wr∧InsI K m a j i))
   case atStart=>exact ⟨i,rfl,by have:=HX.out.1;omega,Nat.le_refl _,by omega,Lib.hid (let ⟨m,h1,h2⟩:=HI.out;⟨m,h1,InsI.start h2⟩)⟩
   case round=>
    obtain ⟨j,rfl,hj1,hj2,hjg,HJ⟩:=hrel
    obtain ⟨m,hA,hI⟩:=HJ.out
    have hml:m.length=N:=hA.row.1
    have j0:(0:Int)≤j:=by omega
    have j1:(j:Int)<N:=by omega
    by_cases hja:a<j
    ·obtain ⟨g'',rfl⟩: ∃g'',gk=g''+1:=⟨gk-1,by omega⟩
     obtain ⟨k,rfl⟩: ∃k,j=k+1:=⟨j-1,by omega⟩
     obtain ⟨x,hx⟩:=get_lt (l:=m) (i:=k) (by omega)
     obtain ⟨y,hy⟩:=get_lt (l:=m) (i:=k+1) (by omega)
     obtain ⟨j,hj⟩: ∃j,k+1=j:=⟨_,rfl⟩
     have c1:=hA.row.cell hx
     have c2:=hA.row.cell hy
     have f1:=hA.row.frozen k
     have f2:=hA.row.frozen (k+1)
     have sx:=hA.sizes HH.out.2.1 hx
     have sy:=hA.sizes HH.out.2.1 hy
     have HW:=Lib.hid fun W (T:Ux.Touch (fun _=>False) wr W)=>And.intro (hA.calm T) (HC.out y x W (hA.touch.trans T fun _ _ f=>f.elim) sy sx)
     rw [hj] at c2 f2 j0 j1 hj1 hj2 hjg hja⊢
     have jI:(j:Int)-1=k:=by omega
     have k0:(0:Int)≤k:=by omega
     have k1:(k:Int)<N:=by omega
     have ja:(j:Int)>a:=by omega
     have HJX:=Lib.hid (And.intro hj (And.intro hI (And.intro hx (And.intro hy (And.intro hja (And.intro hj2 hjg))))))
     have HXX:=Lib.hid fun W (T:Ux.Touch (fun _=>False) wr W)=>And.intro (T.cell c1 (fun f=>f)) (T.cell c2 (fun f=>f))
     clear hA hI hml hx hy hj sx sy hja hj1 hj2 hjg HJ HI
     cases hk:kLt K y x with
     |true=>
      obtain ⟨r,hr⟩: ∃r,cmpStr (K y) (K x)=r:=⟨_,rfl⟩
      have r0:r<0:=by rw [←hr];exact cmp_lt hk
      rw [hr] at HW
      have HK:=Lib.hid hk
      clear hk hr
      go_upto_region 4 with (fail)
      refine Ux.wpr (fun _ w'=>w'.cell? ⟨g,k,none⟩=some (.string x)∧w'.cell? ⟨g,j,none⟩=some (.string y)) (.q [0,1,2,3,4,5,6,7,9,10,11,12] (.h false [8,13] (.e 14 false false (.q [15,16] (.line []))))) ?_;repeat ((with_reducible refine Ux.qg ?_);refine Ux.qu ?_)
      go_wp2_with (go_at_call 29;fail)
      refine (HW.out _ (Ux.Touch.refl _ _).drew).2.mono ?_
      rintro e w4 ⟨rfl,T4⟩
      have T4:=((Ux.Touch.refl (fun _=>False) wr).drew).trans T4 fun _ _ f=>f
      have HW4:=Lib.hid (HW.out w4 T4).1
      clear c1 c2 f1 f2
      go_wp2_with (fail)
      repeat ((with_reducible refine Ux.qg ?_);refine Ux.qu ?_)
      obtain ⟨c1,c2⟩:=HXX.out w4 T4
      have f1:=HW4.out.row.frozen k
      have f2:=HW4.out.row.frozen j
      have HSW:=Lib.hid ((HW4.out.swap' HJX.out.2.2.1 HJX.out.2.2.2.1 HK.out (by have:=HJX.out.2.2.2.2.1;have:=HJX.out.1;omega) (by have:=HX.out.2.1;have:=HJX.out.2.2.2.2.2.1;have:=HJX.out.1;omega)).calm (Ux.Touch.refl _ _).drew)
      have hst:=(HJX.out.2.1.step (x:=x) (y:=y) (by have:=HJX.out.2.2.2.2.1;have:=HJX.out.1;omega) (by have:=HJX.out.2.2.2.2.2.1;have:=HJX.out.1;omega) HJX.out.2.2.1 HJX.out.2.2.2.1 HK.out)
      rw [Nat.add_sub_cancel,HJX.out.1] at hst
      have HST:=Lib.hid hst
      clear T4 hst
      go_upto_region 6 with (fail)
      refine Ux.wpr (fun _ w'=>w'.cell? ⟨g,k,none⟩=some (.string x)∧w'.cell? ⟨g,j,none⟩=some (.string y)) (.q [0,1,2,3,4,5,6,7,8,10,11,12] (.h false [9,13] (.q [14] (.e 15 false false (.line [16,17]))))) ?_;repeat ((with_reducible refine Ux.qg ?_);refine Ux.qu ?_)
      go_wp2
      go_roundg g''
      case measure=>omega
      case rel=>
       have hj:=HJX.out.1
       refine ⟨k,rfl,?_,?_,?_,Lib.hid ⟨_,?_,HST.out⟩⟩
       ·have:=HJX.out.2.2.2.2.1;omega
       ·have:=HJX.out.2.2.2.2.2.1;omega
       ·have:=HJX.out.2.2.2.2.2.2;omega
       ·have:=HSW.out
        rw [hj] at this
        exact this
     |false=>
      obtain ⟨r,hr⟩: ∃r,cmpStr (K y) (K x)=r:=⟨_,rfl⟩
      have r0: ¬r<0:=by rw [←hr];exact cmp_ge hk
      rw [hr] at HW
      have HK:=Lib.hid hk
      clear hk hr
      go_upto_region 4 with (fail)
      refine Ux.wpr (fun _ w'=>w'.cell? ⟨g,k,none⟩=some (.string x)∧w'.cell? ⟨g,j,none⟩=some (.string y)) (.q [0,1,2,3,4,5,6,7,9,10,11,12] (.h false [8,13] (.e 14 false false (.q [15,16] (.line []))))) ?_;repeat ((with_reducible refine Ux.qg ?_);refine Ux.qu ?_)
      go_wp2_with (go_at_call 29;fail)
      refine (HW.out _ (Ux.Touch.refl _ _).drew).2.mono ?_
      rintro e w4 ⟨rfl,T4⟩
      have T4:=((Ux.Touch.refl (fun _=>False) wr).drew).trans T4 fun _ _ f=>f
      have HW4:=Lib.hid (HW.out w4 T4).1
      have HST:=Lib.hid (HJX.out.2.1.stop (by have:=HJX.out.2.2.2.2.1;have:=HJX.out.1;omega) (by have:=HJX.out.2.2.2.2.2.1;have:=HJX.out.1;omega) (.inr ⟨x,y,HJX.out.2.2.1,HJX.out.2.2.2.1,HK.out⟩))
      clear T4 c1 c2 f1 f2
      go_wp2_with (fail)
      repeat ((with_reducible refine Ux.qg ?_);refine Ux.qu ?_)
      go_wp2
      go_roundg g'
      case measure=>omega
      case rel=>exact ⟨i+1,rfl,by have:=HX.out.1;omega,.inl (by have:=HX.out.2.1;omega),by have:=HX.out.2.2;omega,Lib.hid ⟨_,HW4.out,HST.out⟩⟩
    ·obtain rfl:j=a:=by omega
     have ja: ¬((j:Int)>j):=by omega
     obtain ⟨x,hx⟩:=get_lt (l:=m) (i:=j) (by omega)
     have c1:=hA.row.cell hx
     have HW:=Lib.hid fun W (T:Ux.Touch (fun _=>False) wr W)=>hA.calm T
     have HST:=Lib.hid (hI.stop (Nat.le_refl _) hj2 (.inl rfl))
     clear hA hI hml hx hj1 hj2 hjg hja HJ HI
     go_upto_region 4 with (fail)
     refine Ux.wpr (fun _ w'=>w'.cell? ⟨g,j,none⟩=some (.string x)) (.q [0,1,2,3,4,5,6,7,9,10,11,12] (.h false [8,13] (.e 14 false false (.q [15,16] (.line []))))) ?_;repeat ((with_reducible refine Ux.qg ?_);refine Ux.qu ?_)
     refine wpList_skip rfl ?_
     simp only [wpList,Act.put,List.setIfInBounds_toArray,List.set_cons_zero,List.set_cons_succ,Exit.then]
     repeat ((with_reducible refine Ux.qg ?_);refine Ux.qu ?_)
     go_wp2
     go_roundg g'
     case measure=>omega
     case rel=>exact ⟨i+1,rfl,by have:=HX.out.1;omega,.inl (by have:=HX.out.2.1;omega),by have:=HX.out.2.2;omega,Lib.hid ⟨_,HW.out _ (Ux.Touch.refl _ _).drew,HST.out⟩⟩
  ·have i1: ¬(i:Int)<b:=by omega
   have HE:=Lib.hid (show b≤i by omega)
   clear hlt hig hi1 hi2
   go_wp2
   go_end0
   obtain ⟨m,h1,h2⟩:=HI.out
   exact ⟨rfl,m,h1,h2.mono (Nat.le_refl _) HE.out⟩
end Go.Proofs.YtfccjaboicpohaaGreatDoor
namespace Go.Proofs.YtfccjaboicpohaaGreatDoor
open Go.RowKit
open Ux (Row swp StEq Srt Out Up Dn kLt slt)
theorem mid_is (i j:Nat) (hi:i≤1000000) (hj:j≤1000000): ∃s h:Nat,(i:Int)+j=s∧s=i+j∧IntKind.u64.wrap (s:Int)=s∧(s:Int)/2=h∧h=(i+j)/2∧(0:Int)≤h∧(h:Int)≤1000000:=
 ⟨i+j,(i+j)/2,by omega,rfl,by rw [Ux.u64w];omega,by omega,rfl,by omega,by omega⟩
def SymPost (K:ByteArray→ByteArray) (g N c:Nat) (w:World) (l:List ByteArray) (a b:Nat) (e:Ending) (w':World):Prop:=e= .returned (.tuple #[])∧∃m,SAt K g N c w l a b m w'∧Srt K m a b
theorem upSAt {K:ByteArray→ByteArray} {g N c:Nat} {w w1:World} {l m:List ByteArray} {a b k:Nat} {x y:ByteArray} (h:SAt K g N c w l a b m w1) (hU:Up l m a k) (ha:a≤k) (hk:k+1<b) (hb:b≤l.length) (hx:l[a]? =some x) (hy:l[k+1]? =some y) (hlt:kLt K y x=true):
 SAt K g N c w l a b (swp m k (k+1) x y) ((w1.setCell ⟨g,k,none⟩ (.string y)).setCell ⟨g,k+1,none⟩ (.string x))∧Up l (swp m k (k+1) x y) a (k+1):=by
 obtain ⟨h1,h2,h3⟩:=hU.step ha (by omega) hx hy
 exact ⟨h.swap h1 h2 hlt ha hk,h3⟩
theorem dnSAt {K:ByteArray→ByteArray} {g N c:Nat} {w w1:World} {l m:List ByteArray} {a b k d:Nat} {x y:ByteArray} (h:SAt K g N c w l a b m w1) (hD:Dn l m (k+1) d) (ha:a≤k) (hk:k+1≤d) (hd:d<b) (hb:b≤l.length) (hy:l[d]? =some y) (hx:l[k]? =some x) (hlt:kLt K y x=true):
 SAt K g N c w l a b (swp m k (k+1) x y) ((w1.setCell ⟨g,k+1,none⟩ (.string x)).setCell ⟨g,k,none⟩ (.string y))∧Dn l (swp m k (k+1) x y) k d:=by
 obtain ⟨h1,h2,h3⟩:=hD.step hk (by omega) hy hx
 exact ⟨h.swap' h1 h2 hlt ha (by omega),h3⟩
set_option maxHeartbeats 16000000 in
set_option maxRecDepth 100000 in
theorem symA_ (g N c:Nat) (cs:Value) (K:ByteArray→ByteArray) (w0:World) (l:List ByteArray) (a d b:Nat) (w:World) (hd:a+1=d) (h:TRow w g N c l) (hN:N≤1000000) (hab:d<b) (hb:b≤N) (hC:CmpOk w0 cs K) (hg:w0.heap.size≤g) (hT:Ux.Touch (fun _=>False) w0 w) (hs: ∀x∈l,x.size≤1000000) (sr:Srt K l d b):
 Calls Tryz.prog 168 #[.slice (some ⟨g,0,none⟩) N c,.int .i64 a,.int .i64 d,.int .i64 b,.func (.func 29) #[cs] #[]] w (SymPost K g N c w l a b):=by
 have hNl:=h.1
 have N0:(N:Int)≤1000000:=by omega
 have b0:(b:Int)≤N:=by omega
 have d0:(d:Int)<b:=by omega
 have a0:(0:Int)≤a:=by omega
 have dI:(d:Int)-a=1:=by omega
 have aN:(a:Int)<N:=by omega
 obtain ⟨x,hx⟩:=get_lt (l:=l) (i:=a) (by omega)
 have HH:=Lib.hid (And.intro h (And.intro hs (And.intro hN (And.intro hd (And.intro hb (And.intro hx sr))))))
 have HC:=Lib.hid fun x y W (T:Ux.Touch (fun k=>k=g) w W)=>hC x y W (hT.trans T fun k hk e=>by omega)
 have HAB:=Lib.hid (And.intro hab hNl)
 clear h hC hg hT hs hN hab hb hd hx sr hNl
 go_enter Tryz.func168,Tryz.ntmps168
 go_wp2_with (fail)
 go_loopg [10,11] b (fun gk s10 s11 wr=> ∃i j:Nat,s10= .int .i64 i∧s11= .int .i64 j∧d≤i∧i≤j∧j≤b∧j≤i+gk∧Hid ((∀t y,d≤t→t<i→l[t]? =some y→kLt K y x=true)∧(∀t y,j≤t→t<b→l[t]? =some y→kLt K y x=false)∧Ux.Touch (fun _=>False) w wr))
 case atStart=>exact ⟨d,b,rfl,rfl,Nat.le_refl _,by have:=HAB.out.1;omega,Nat.le_refl _,by omega,Lib.hid ⟨fun t y h1 h2=>absurd h1 (by omega),fun t y h1 h2=>absurd h1 (by omega),Ux.Touch.refl _ _⟩⟩
 case round=>
  obtain ⟨i,j,rfl,rfl,hi,hij,hj,hig,HI⟩:=hrel
  by_cases hlt:i<j
  ·obtain ⟨g',rfl⟩: ∃g',gk=g'+1:=⟨gk-1,by omega⟩
   have i1:(i:Int)<j:=by omega
   have hjN:j≤1000000:=by have:=HH.out.2.2.1;have:=HH.out.2.2.2.2.1;omega
   obtain ⟨s,e,sI,hs,hu,eI,he,e0,e1⟩:=mid_is i j (by omega) hjN
   have hel:i≤e∧e<j:=by omega
   have eN:(e:Int)<N:=by have:=HH.out.2.2.2.2.1;omega
   obtain ⟨y,hy⟩:=get_lt (l:=l) (i:=e) (by have:=HAB.out.2;omega)
   have hR:=HH.out.1.touch HI.out.2.2 (fun f=>f)
   have c1:=hR.cell hy
   have c2:=hR.cell HH.out.2.2.2.2.2.1
   have HW:=Lib.hid fun W (T:Ux.Touch (fun _=>False) w W)=>HC.out y x W (T.mono fun _ _ f=>f.elim) (HH.out.2.1 y (List.mem_of_getElem? hy)) (HH.out.2.1 x (List.mem_of_getElem? HH.out.2.2.2.2.2.1))
   have HX:=Lib.hid (And.intro hi (And.intro hij (And.intro hj (And.intro hig (And.intro hel (And.intro hy hlt))))))
   clear hi hij hj hig hlt hjN hs he hel hy hR
   cases hk:kLt K y x with
   |true=>
    obtain ⟨r,hr⟩: ∃r,cmpStr (K y) (K x)=r:=⟨_,rfl⟩
    have r0:r<0:=by rw [←hr];exact cmp_lt hk
    rw [hr] at HW
    have HK:=Lib.hid hk
    clear hk hr
    go_upto_region 5 with (fail)
    refine Ux.wpr (fun _ w'=>w'.cell? ⟨g,e,none⟩=some (.string y)∧w'.cell? ⟨g,a,none⟩=some (.string x)) (.q [0,1,2,3,5,6,7] (.h false [4,8] (.e 9 false false (.q [10] (.line []))))) ?_;repeat ((with_reducible refine Ux.qg ?_);refine Ux.qu ?_)
    go_wp2_with (go_at_call 29;fail)
    refine (HW.out _ (HI.out.2.2.trans (Ux.Touch.refl (fun _=>False) wr).drew fun _ _ f=>f)).mono ?_
    rintro z w4 ⟨rfl,T4⟩
    have H4:=Lib.hid (HI.out.2.2.trans ((Ux.Touch.refl (fun _=>False) wr).drew.trans T4 fun _ _ f=>f) fun _ _ f=>f)
    clear T4 c1 c2
    go_wp2_with (fail)
    repeat ((with_reducible refine Ux.qg ?_);refine Ux.qu ?_)
    go_wp2
    go_roundg g'
    case measure=>have:=HX.out;omega
    case rel=>
     refine ⟨e+1,j,rfl,rfl,?_,?_,?_,?_,Lib.hid ⟨fun t y' h1 h2 hy'=> ?_,HI.out.2.1,H4.out⟩⟩
     ·have:=HX.out;omega
     ·have:=HX.out;omega
     ·have:=HX.out;omega
     ·have:=HX.out;omega
     ·
      have hle:=HH.out.2.2.2.2.2.2.le h1 (show t≤e by omega) (by have:=HX.out;omega) hy' HX.out.2.2.2.2.2.1
      exact Ux.kLt_mid (K:=K) (Ux.slt_irrefl (K x)) hle HK.out
   |false=>
    obtain ⟨r,hr⟩: ∃r,cmpStr (K y) (K x)=r:=⟨_,rfl⟩
    have r0: ¬r<0:=by rw [←hr];exact cmp_ge hk
    rw [hr] at HW
    have HK:=Lib.hid hk
    clear hk hr
    go_upto_region 5 with (fail)
    refine Ux.wpr (fun _ w'=>w'.cell? ⟨g,e,none⟩=some (.string y)∧w'.cell? ⟨g,a,none⟩=some (.string x)) (.q [0,1,2,3,5,6,7] (.h false [4,8] (.e 9 false false (.q [10] (.line []))))) ?_;repeat ((with_reducible refine Ux.qg ?_);refine Ux.qu ?_)
    go_wp2_with (go_at_call 29;fail)
    refine (HW.out _ (HI.out.2.2.trans (Ux.Touch.refl (fun _=>False) wr).drew fun _ _ f=>f)).mono ?_
    rintro z w4 ⟨rfl,T4⟩
    have H4:=Lib.hid (HI.out.2.2.trans ((Ux.Touch.refl (fun _=>False) wr).drew.trans T4 fun _ _ f=>f) fun _ _ f=>f)
    clear T4 c1 c2
    go_wp2_with (fail)
    repeat ((with_reducible refine Ux.qg ?_);refine Ux.qu ?_)
    go_wp2
    go_roundg g'
    case measure=>have:=HX.out;omega
    case rel=>
     refine ⟨i,e,rfl,rfl,?_,?_,?_,?_,Lib.hid ⟨HI.out.1,fun t y' h1 h2 hy'=> ?_,H4.out⟩⟩
     ·have:=HX.out;omega
     ·have:=HX.out;omega
     ·have:=HX.out;omega
     ·have:=HX.out;omega
     ·exact Ux.kLt_trans HK.out (HH.out.2.2.2.2.2.2.le (show d≤e by have:=HX.out;omega) h1 h2 HX.out.2.2.2.2.2.1 hy')
  ·obtain rfl:i=j:=by omega
   have i1: ¬(i:Int)<i:=by omega
   obtain ⟨i',hi'⟩: ∃i',i-1=i':=⟨_,rfl⟩
   have iI:(i:Int)-1=i':=by omega
   have HX:=Lib.hid (And.intro hi (And.intro hj hi'))
   have i'N:(i':Int)<N:=by have:=HH.out.2.2.2.2.1;omega
   clear hi hij hj hig hlt hi'
   go_wp2_with (fail)
   go_loopg [13] i (fun gk s13 wr=> ∃k:Nat,s13= .int .i64 k∧a≤k∧k≤i'∧i'≤k+gk∧Hid (∃m,SAt K g N c w l a b m wr∧Up l m a k))
   case atStart=>exact ⟨a,rfl,Nat.le_refl _,by have:=HX.out;have:=HH.out.2.2.2.1;omega,by have:=HX.out;omega,Lib.hid ⟨l,(SAt.start a b HH.out.1).calm HI.out.2.2,Up.zero _ _⟩⟩
   case round=>
    obtain ⟨k,rfl,hk1,hk2,hkg,HJ⟩:=hrel
    have k0:(0:Int)≤k:=by omega
    by_cases hlt:k<i'
    ·obtain ⟨g',rfl⟩: ∃g',gk=g'+1:=⟨gk-1,by omega⟩
     have q1:(k:Int)<i':=by omega
     obtain ⟨m,hA,hU⟩:=HJ.out
     obtain ⟨y,hy⟩:=get_lt (l:=l) (i:=k+1) (by have:=HAB.out.2;have:=HX.out;have:=HH.out.2.2.2.2.1;omega)
     have hlt1:=HI.out.1 (k+1) y (by have:=HH.out.2.2.2.1;omega) (by have:=HX.out;omega) hy
     obtain ⟨u1,u2,_⟩:=hU.step hk1 (by have:=HAB.out.2;have:=HX.out;have:=HH.out.2.2.2.2.1;omega) HH.out.2.2.2.2.2.1 hy
     have hst:=upSAt (hA.calm (Ux.Touch.refl _ _)) hU hk1 (by have:=HX.out;omega) (by have:=HAB.out.2;have:=HH.out.2.2.2.2.1;omega) HH.out.2.2.2.2.2.1 hy hlt1
     have c1:=hA.row.cell u1
     have c2:=hA.row.cell u2
     have f1:=hA.row.frozen k
     have f2:=hA.row.frozen (k+1)
     obtain ⟨e,he⟩: ∃e,k+1=e:=⟨_,rfl⟩
     rw [he] at hst c2 f2
     have eI:(k:Int)+1=e:=by omega
     have e0:(0:Int)≤e:=by omega
     have e1:(e:Int)<N:=by omega
     have kN:(k:Int)<N:=by omega
     have HS:=Lib.hid (And.intro (hst.1.calm (Ux.Touch.refl _ _).drew) (And.intro hst.2 (And.intro he (And.intro hk1 (And.intro hlt hkg)))))
     clear hA hU hy hlt1 u1 u2 hst he hk1 hk2 hkg hlt
     go_upto_region 11 with (fail)
     refine Ux.wpr (fun _ w'=>w'.cell? ⟨g,k,none⟩=some (.string x)∧w'.cell? ⟨g,e,none⟩=some (.string y)) (.q [0,1,2,3,4,5,6,7,8,10,11,12] (.h false [9,13] (.q [14] (.e 15 false false (.line [16,17]))))) ?_;repeat ((with_reducible refine Ux.qg ?_);refine Ux.qu ?_)
     go_wp2
     go_roundg g'
     case measure=>have:=HS.out;omega
     case rel=>exact ⟨e,rfl,by have:=HS.out;omega,by have:=HS.out;omega,by have:=HS.out;omega,Lib.hid ⟨_,HS.out.1,HS.out.2.1⟩⟩
    ·obtain rfl:k=i':=by omega
     have q1: ¬(k:Int)<k:=by omega
     clear hlt hk1 hk2 hkg
     go_wp2
     go_end0
     obtain ⟨m,hA,hU⟩:=HJ.out
     refine ⟨rfl,m,hA,?_⟩
     have hx':=HX.out
     have hd:=HH.out.2.2.2.1
     obtain rfl:k=i-1:=by omega
     exact hU.sorted (by omega) hx'.2.1 HH.out.2.2.2.2.2.1 (by rw [hd];exact HH.out.2.2.2.2.2.2) (fun t y h1 h2 hy=>HI.out.1 t y (by omega) h2 hy) HI.out.2.1
end Go.Proofs.YtfccjaboicpohaaGreatDoor
namespace Go.Proofs.YtfccjaboicpohaaGreatDoor
open Go.RowKit
open Ux (Row swp StEq Srt Out Up Dn kLt slt Rot RotGood)
set_option maxHeartbeats 16000000 in
set_option maxRecDepth 100000 in
theorem symB_ (g N c:Nat) (cs:Value) (K:ByteArray→ByteArray) (w0:World) (l:List ByteArray) (a d b:Nat) (w:World) (hd:d+1=b) (h:TRow w g N c l) (hN:N≤1000000) (had:a+1<d) (hb:b≤N) (hC:CmpOk w0 cs K) (hg:w0.heap.size≤g) (hT:Ux.Touch (fun _=>False) w0 w) (hs: ∀x∈l,x.size≤1000000) (sl:Srt K l a d):
 Calls Tryz.prog 168 #[.slice (some ⟨g,0,none⟩) N c,.int .i64 a,.int .i64 d,.int .i64 b,.func (.func 29) #[cs] #[]] w (SymPost K g N c w l a b):=by
 have hNl:=h.1
 have N0:(N:Int)≤1000000:=by omega
 have b0:(b:Int)≤N:=by omega
 have d0:(d:Int)<N:=by omega
 have a0:(0:Int)≤a:=by omega
 obtain ⟨z,hz⟩: ∃z:Nat,d-a=z:=⟨_,rfl⟩
 have zI:(d:Int)-a=z:=by omega
 have z1:((z:Int)==1)=false:=beq_false_of_ne (by omega)
 have bI:(b:Int)-d=1:=by omega
 have aN:(a:Int)<N:=by omega
 obtain ⟨y,hy⟩:=get_lt (l:=l) (i:=d) (by omega)
 have HH:=Lib.hid (And.intro h (And.intro hs (And.intro hN (And.intro hd (And.intro hb (And.intro hy sl))))))
 have HC:=Lib.hid fun x y W (T:Ux.Touch (fun k=>k=g) w W)=>hC x y W (hT.trans T fun k hk e=>by omega)
 have HAB:=Lib.hid (And.intro had hNl)
 clear h hC hg hT hs hN had hb hd hy sl hNl hz
 go_enter Tryz.func168,Tryz.ntmps168
 go_wp2_with (fail)
 go_loopg [14,15] b (fun gk s10 s11 wr=> ∃i j:Nat,s10= .int .i64 i∧s11= .int .i64 j∧a≤i∧i≤j∧j≤d∧j≤i+gk∧Hid ((∀t x,a≤t→t<i→l[t]? =some x→kLt K y x=false)∧(∀t x,j≤t→t<d→l[t]? =some x→kLt K y x=true)∧Ux.Touch (fun _=>False) w wr))
 case atStart=>exact ⟨a,d,rfl,rfl,Nat.le_refl _,by have:=HAB.out.1;omega,Nat.le_refl _,by have:=HH.out.2.2.2.1;omega,Lib.hid ⟨fun t y h1 h2=>absurd h1 (by omega),fun t y h1 h2=>absurd h1 (by omega),Ux.Touch.refl _ _⟩⟩
 case round=>
  obtain ⟨i,j,rfl,rfl,hi,hij,hj,hig,HI⟩:=hrel
  by_cases hlt:i<j
  ·obtain ⟨g',rfl⟩: ∃g',gk=g'+1:=⟨gk-1,by omega⟩
   have i1:(i:Int)<j:=by omega
   have hjN:j≤1000000:=by have:=HH.out.2.2.1;omega
   obtain ⟨s,e,sI,hs,hu,eI,he,e0,e1⟩:=mid_is i j (by omega) hjN
   have hel:i≤e∧e<j:=by omega
   have eN:(e:Int)<N:=by omega
   obtain ⟨x,hx⟩:=get_lt (l:=l) (i:=e) (by have:=HAB.out.2;omega)
   have hR:=HH.out.1.touch HI.out.2.2 (fun f=>f)
   have c1:=hR.cell hx
   have c2:=hR.cell HH.out.2.2.2.2.2.1
   have HW:=Lib.hid fun W (T:Ux.Touch (fun _=>False) w W)=>HC.out y x W (T.mono fun _ _ f=>f.elim) (HH.out.2.1 y (List.mem_of_getElem? HH.out.2.2.2.2.2.1)) (HH.out.2.1 x (List.mem_of_getElem? hx))
   have HX:=Lib.hid (And.intro hi (And.intro hij (And.intro hj (And.intro hig (And.intro hel (And.intro hx hlt))))))
   clear hi hij hj hig hlt hjN hs he hel hx hR
   cases hk:kLt K y x with
   |false=>
    obtain ⟨r,hr⟩: ∃r,cmpStr (K y) (K x)=r:=⟨_,rfl⟩
    have r1:decide (r<0)=false:=decide_eq_false (by rw [←hr];exact cmp_ge hk)
    rw [hr] at HW
    have HK:=Lib.hid hk
    clear hk hr
    go_upto_region 17 with (fail)
    refine Ux.wpr (fun _ w'=>w'.cell? ⟨g,e,none⟩=some (.string x)∧w'.cell? ⟨g,d,none⟩=some (.string y)) (.q [0,1,2,3,5,6,7] (.h false [4,8] (.e 9 false false (.q [10,11] (.line []))))) ?_;repeat ((with_reducible refine Ux.qg ?_);refine Ux.qu ?_)
    go_wp2_with (go_at_call 29;fail)
    refine (HW.out _ (HI.out.2.2.trans (Ux.Touch.refl (fun _=>False) wr).drew fun _ _ f=>f)).mono ?_
    rintro z w4 ⟨rfl,T4⟩
    have H4:=Lib.hid (HI.out.2.2.trans ((Ux.Touch.refl (fun _=>False) wr).drew.trans T4 fun _ _ f=>f) fun _ _ f=>f)
    clear T4 c1 c2
    go_wp2_with (fail)
    repeat ((with_reducible refine Ux.qg ?_);refine Ux.qu ?_)
    go_wp2
    go_roundg g'
    case measure=>have:=HX.out;omega
    case rel=>
     refine ⟨e+1,j,rfl,rfl,?_,?_,?_,?_,Lib.hid ⟨fun t y' h1 h2 hy'=> ?_,HI.out.2.1,H4.out⟩⟩
     ·have:=HX.out;omega
     ·have:=HX.out;omega
     ·have:=HX.out;omega
     ·have:=HX.out;omega
     ·exact Ux.kLt_trans (HH.out.2.2.2.2.2.2.le h1 (show t≤e by omega) (by have:=HX.out;omega) hy' HX.out.2.2.2.2.2.1) HK.out
   |true=>
    obtain ⟨r,hr⟩: ∃r,cmpStr (K y) (K x)=r:=⟨_,rfl⟩
    have r1:decide (r<0)=true:=decide_eq_true (by rw [←hr];exact cmp_lt hk)
    rw [hr] at HW
    have HK:=Lib.hid hk
    clear hk hr
    go_upto_region 17 with (fail)
    refine Ux.wpr (fun _ w'=>w'.cell? ⟨g,e,none⟩=some (.string x)∧w'.cell? ⟨g,d,none⟩=some (.string y)) (.q [0,1,2,3,5,6,7] (.h false [4,8] (.e 9 false false (.q [10,11] (.line []))))) ?_;repeat ((with_reducible refine Ux.qg ?_);refine Ux.qu ?_)
    go_wp2_with (go_at_call 29;fail)
    refine (HW.out _ (HI.out.2.2.trans (Ux.Touch.refl (fun _=>False) wr).drew fun _ _ f=>f)).mono ?_
    rintro z w4 ⟨rfl,T4⟩
    have H4:=Lib.hid (HI.out.2.2.trans ((Ux.Touch.refl (fun _=>False) wr).drew.trans T4 fun _ _ f=>f) fun _ _ f=>f)
    clear T4 c1 c2
    go_wp2_with (fail)
    repeat ((with_reducible refine Ux.qg ?_);refine Ux.qu ?_)
    go_wp2
    go_roundg g'
    case measure=>have:=HX.out;omega
    case rel=>
     refine ⟨i,e,rfl,rfl,?_,?_,?_,?_,Lib.hid ⟨HI.out.1,fun t y' h1 h2 hy'=> ?_,H4.out⟩⟩
     ·have:=HX.out;omega
     ·have:=HX.out;omega
     ·have:=HX.out;omega
     ·have:=HX.out;omega
     ·exact Ux.kLt_mid (HH.out.2.2.2.2.2.2.le (show a≤e by have:=HX.out;omega) h1 h2 HX.out.2.2.2.2.2.1 hy') (Ux.slt_irrefl (K y)) HK.out
  ·obtain rfl:i=j:=by omega
   have i1: ¬(i:Int)<i:=by omega
   have HX:=Lib.hid (And.intro hi hj)
   have iN:(i:Int)<N:=by omega
   have i0:(0:Int)≤i:=by omega
   clear hi hij hj hig hlt
   go_wp2_with (fail)
   go_loopg [17] d (fun gk s13 wr=> ∃k:Nat,s13= .int .i64 k∧i≤k∧k≤d∧k≤i+gk∧Hid (∃m,SAt K g N c w l a b m wr∧Dn l m k d))
   case atStart=>exact ⟨d,rfl,HX.out.2,Nat.le_refl _,by omega,Lib.hid ⟨l,(SAt.start a b HH.out.1).calm HI.out.2.2,Dn.zero _ _⟩⟩
   case round=>
    obtain ⟨k,rfl,hk1,hk2,hkg,HJ⟩:=hrel
    have k0:(0:Int)≤k:=by omega
    by_cases hlt:i<k
    ·obtain ⟨g',rfl⟩: ∃g',gk=g'+1:=⟨gk-1,by omega⟩
     have q1:(k:Int)>i:=by omega
     obtain ⟨m,hA,hD⟩:=HJ.out
     obtain ⟨e,rfl⟩: ∃e,k=e+1:=⟨k-1,by omega⟩
     obtain ⟨x,hx⟩:=get_lt (l:=l) (i:=e) (by have:=HAB.out.2;omega)
     have hlt1:=HI.out.2.1 e x (by omega) (by omega) hx
     obtain ⟨u1,u2,_⟩:=hD.step hk2 (by have:=HAB.out.2;omega) HH.out.2.2.2.2.2.1 hx
     have hst:=dnSAt hA hD (show a≤e by have:=HX.out;omega) hk2 (show d<b by have:=HH.out.2.2.2.1;omega) (by have:=HAB.out.2;have:=HH.out.2.2.2.2.1;omega) HH.out.2.2.2.2.2.1 hx hlt1
     have c1:=hA.row.cell u1
     have c2:=hA.row.cell u2
     have f1:=hA.row.frozen e
     have f2:=hA.row.frozen (e+1)
     obtain ⟨k,hk⟩: ∃k,e+1=k:=⟨_,rfl⟩
     rw [hk] at hst c2 f2 q1 k0 hk1 hk2 hkg hlt⊢
     have eI:(k:Int)-1=e:=by omega
     have e0:(0:Int)≤e:=by omega
     have eN:(e:Int)<N:=by omega
     have kN:(k:Int)<N:=by omega
     have HS:=Lib.hid (And.intro (hst.1.calm (Ux.Touch.refl _ _).drew) (And.intro hst.2 (And.intro hk (And.intro hk1 (And.intro hk2 (And.intro hlt hkg))))))
     clear hA hD hx hlt1 u1 u2 hst hk hk1 hk2 hkg hlt HJ
     go_upto_region 23 with (fail)
     refine Ux.wpr (fun _ w'=>w'.cell? ⟨g,e,none⟩=some (.string x)∧w'.cell? ⟨g,k,none⟩=some (.string y)) (.q [0,1,2,3,4,5,6,7,8,10,11,12] (.h false [9,13] (.q [14] (.e 15 false false (.line [16,17]))))) ?_;repeat ((with_reducible refine Ux.qg ?_);refine Ux.qu ?_)
     go_wp2
     go_roundg g'
     case measure=>have:=HS.out;omega
     case rel=>exact ⟨e,rfl,by have:=HS.out;omega,by have:=HS.out;omega,by have:=HS.out;omega,Lib.hid ⟨_,HS.out.1,HS.out.2.1⟩⟩
    ·obtain rfl:k=i:=by omega
     have q1: ¬(k:Int)>k:=by omega
     clear hlt hk1 hk2 hkg
     go_wp2
     go_end0
     obtain ⟨m,hA,hD⟩:=HJ.out
     refine ⟨rfl,m,hA,?_⟩
     have:=hD.sorted HX.out.1 HX.out.2 HH.out.2.2.2.2.2.1 HH.out.2.2.2.2.2.2 HI.out.1 HI.out.2.1
     rwa [HH.out.2.2.2.1] at this
end Go.Proofs.YtfccjaboicpohaaGreatDoor
namespace Go.Proofs.YtfccjaboicpohaaGreatDoor
open Go.RowKit
open Ux (Row swp StEq Srt Out Up Dn kLt slt Rot RotGood)
theorem rot_plain {K:ByteArray→ByteArray} {l:List ByteArray} {s d e:Nat} (h1:s≤d) (h2:d≤e) (h3:e≤l.length) (hi: ∀i j x y,s≤i→i<d→d≤j→j<e→l[i]? =some x→l[j]? =some y→kLt K y x=true):
 ∃X U V Y,l=X++(U++(V++Y))∧X.length=s∧s+U.length=d∧d+V.length=e∧StEq K l (X++(V++(U++Y)))∧Rot l (X++(V++(U++Y))) s d e:=by
 obtain ⟨X,U,V,Y,e1,e2,e3,e4⟩:=Ux.parts3 l s d e h1 h2 h3
 have g1:s+U.length=d:=by omega
 have g2:d+V.length=e:=by omega
 refine ⟨X,U,V,Y,e1,e2,g1,g2,?_,?_⟩
 ·rw [e1]
  refine Ux.steq_turn X U V Y fun u hu v hv=> ?_
  obtain ⟨i,hi1⟩:=List.getElem?_of_mem hu
  obtain ⟨j,hj1⟩:=List.getElem?_of_mem hv
  have li:=(List.getElem?_eq_some_iff.1 hi1).1
  have lj:=(List.getElem?_eq_some_iff.1 hj1).1
  refine hi (s+i) (d+j) u v (by omega) (by omega) (by omega) (by omega) ?_ ?_
  ·rw [e1,List.getElem?_append_right (by omega),e2,Nat.add_sub_cancel_left,List.getElem?_append_left li]
   exact hi1
  ·rw [e1,List.getElem?_append_right (by omega),e2,List.getElem?_append_right (by omega),show d+j-s-U.length=j by omega,List.getElem?_append_left lj]
   exact hj1
 ·rw [e1]
  exact Rot.of X U V Y e2 g1 g2
def SymAll (g N c:Nat) (cs:Value) (K:ByteArray→ByteArray) (w0:World) (D:Nat):Prop:= ∀(a d b:Nat) (l:List ByteArray) (w:World),b-a≤D→a<d→d<b→b≤N→TRow w g N c l→Ux.Touch (fun _=>False) w0 w→(∀x∈l,x.size≤1000000)→Srt K l a d→Srt K l d b→
    Calls Tryz.prog 168 #[.slice (some ⟨g,0,none⟩) N c,.int .i64 a,.int .i64 d,.int .i64 b,.func (.func 29) #[cs] #[]] w (SymPost K g N c w l a b)
end Go.Proofs.YtfccjaboicpohaaGreatDoor
