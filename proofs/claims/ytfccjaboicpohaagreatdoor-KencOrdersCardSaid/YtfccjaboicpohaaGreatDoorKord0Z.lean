/- A part of the proof that the statement holds for every input that it names. No other condition. -/
import Derived.Test.YtfccjaboicpohaaGreatDoorKencBZ
set_option linter.unusedVariables false
set_option linter.unusedSimpArgs false
namespace Go.Proofs.YtfccjaboicpohaaGreatDoor
open Go.RowKit
open Ux (cmpI cmpB IsVal turn slt)
theorem cmpB_eq {A B:List UInt8} (h:cmpB A B=0):A=B:=by
 rw [Ux.cmpB_less] at h
 cases h1:Op.bytesLess A B with
 |true=>rw [h1] at h;simp at h
 |false=>
  cases h2:Op.bytesLess B A with
  |true=>rw [h1,h2] at h;simp at h
  |false=>
   have:=Ux.slt_conn (a:=⟨A.toArray⟩) (b:=⟨B.toArray⟩) (by unfold slt;rw [Lib.toList_data,Lib.toList_data];exact h1) (by unfold slt;rw [Lib.toList_data,Lib.toList_data];exact h2)
   have:=congrArg (fun z:ByteArray=>z.data.toList) this
   simpa using this
theorem first_diff: ∀(A B:List UInt8),¬A<+:B→¬B<+:A→∃p a b A' B',A=p++a::A'∧B=p++b::B'∧a≠b
 | [],B,h,_=>absurd (List.nil_prefix) h
 |a::A,[],_,h=>absurd (List.nil_prefix) h
 |a::A,b::B,h1,h2=>by
  by_cases e:a=b
  ·subst e
   obtain ⟨p,x,y,A',B',e1,e2,e3⟩:=first_diff A B (fun h=>h1 (List.cons_prefix_cons.2 ⟨rfl,h⟩)) (fun h=>h2 (List.cons_prefix_cons.2 ⟨rfl,h⟩))
   exact ⟨a::p,x,y,A',B',by rw [e1];rfl,by rw [e2];rfl,e3⟩
  ·exact ⟨[],a,b,A,B,rfl,rfl,e⟩
theorem cmpB_diff (a b:UInt8) (A B:List UInt8) (h:a≠b): ∀p:List UInt8,cmpB (p++a::A) (p++b::B)=if a<b then-1 else 1
 | []=>by rw [List.nil_append,List.nil_append,Ux.cmpB_cons,if_neg h]
 |c::p=>by rw [List.cons_append,List.cons_append,Ux.cmpB_cons,if_pos rfl];exact cmpB_diff a b A B h p
theorem cmpB_same (X Y:List UInt8): ∀A:List UInt8,cmpB (A++X) (A++Y)=cmpB X Y
 | []=>rfl
 |a::A=>by rw [List.cons_append,List.cons_append,Ux.cmpB_cons,if_pos rfl];exact cmpB_same X Y A
theorem turn_lt (a b:UInt8):(255-a<255-b)↔b<a:=by
 have h1:(255-a).toNat=255-a.toNat:=by
  have:=a.toNat_lt
  rw [UInt8.toNat_sub]
  show (2^8-a.toNat+255) % 2^8=_
  omega
 have h2:(255-b).toNat=255-b.toNat:=by
  have:=b.toNat_lt
  rw [UInt8.toNat_sub]
  show (2^8-b.toNat+255) % 2^8=_
  omega
 have:=a.toNat_lt
 have:=b.toNat_lt
 rw [UInt8.lt_iff_toNat_lt,UInt8.lt_iff_toNat_lt,h1,h2]
 omega
theorem turn_inj (a b:UInt8) (h:255-a=255-b):a=b:=by
 have h1:=turn_lt a b
 have h2:=turn_lt b a
 rw [h] at h1 h2
 have h3: ¬b<a:=fun e=>absurd (h1.2 e) (by simp)
 have h4: ¬a<b:=fun e=>absurd (h2.2 e) (by simp)
 rw [UInt8.lt_iff_toNat_lt] at h3 h4
 exact UInt8.toNat_inj.1 (by omega)
theorem val_first {A B:List UInt8} (hA:IsVal A) (hB:IsVal B) (h:A≠B) (X Y:List UInt8):cmpB (A++X) (B++Y)=cmpB A B∧cmpB (turn A++X) (turn B++Y)= -cmpB A B:=by
 obtain ⟨p,a,b,A',B',rfl,rfl,e⟩:=first_diff A B (fun k=>h (Ux.no_begin hA hB k)) (fun k=>h (Ux.no_begin hB hA k).symm)
 rw [cmpB_diff a b A' B' e p,List.append_assoc,List.append_assoc,List.cons_append,List.cons_append,cmpB_diff a b _ _ e p]
 refine ⟨rfl,?_⟩
 have e1:turn (p++a::A')++X=turn p++(255-a)::(turn A'++X):=by unfold turn;simp
 have e2:turn (p++b::B')++Y=turn p++(255-b)::(turn B'++Y):=by unfold turn;simp
 rw [e1,e2,cmpB_diff _ _ _ _ (fun k=>e (turn_inj _ _ k))]
 by_cases k:a<b
 ·have: ¬255-a<255-b:=by
   rw [turn_lt]
   rw [UInt8.lt_iff_toNat_lt] at k⊢
   omega
  rw [if_pos k,if_neg this]
  rfl
 ·have:255-a<255-b:=by
   rw [turn_lt]
   rw [UInt8.lt_iff_toNat_lt] at k⊢
   have:a.toNat≠b.toNat:=fun k=>e (UInt8.toNat_inj.1 k)
   omega
  rw [if_neg k,if_pos this]
theorem cmpI_self (x:Int):cmpI x x=0:=by unfold cmpI;simp
theorem be_order: ∀(A B:List UInt8) (p q:Nat),A.length=B.length→cmpI (A.foldl (fun a b=>a*256+b.toNat) p:Nat) (B.foldl (fun a b=>a*256+b.toNat) q:Nat)=if p≠q then cmpI p q else cmpB A B
 | [],[],p,q,_=>by
   by_cases h:p=q
   ·subst h;simp [cmpI_self,Ux.cmpB_self]
   ·simp [h]
 | [],b::B,p,q,h=>by simp at h
 |a::A,[],p,q,h=>by simp at h
 |a::A,b::B,p,q,h=>by
  have ih:=be_order A B (p*256+a.toNat) (q*256+b.toNat) (by simpa using h)
  rw [List.foldl_cons,List.foldl_cons,ih]
  have ha:=a.toNat_lt
  have hb:=b.toNat_lt
  by_cases e:p=q
  ·subst e
   rw [if_neg (show¬(p≠p) from fun k=>k rfl),Ux.cmpB_cons]
   by_cases e2:a=b
   ·subst e2
    rw [if_neg (fun k=>k rfl),if_pos rfl]
   ·have e3:a.toNat≠b.toNat:=fun k=>e2 (UInt8.toNat_inj.1 k)
    rw [if_pos (by omega),if_neg e2]
    unfold cmpI
    by_cases e4:a<b
    ·rw [if_pos e4,if_pos (by rw [UInt8.lt_iff_toNat_lt] at e4;omega)]
    ·rw [if_neg e4,if_neg (by rw [UInt8.lt_iff_toNat_lt] at e4;omega),if_pos (by rw [UInt8.lt_iff_toNat_lt] at e4;omega)]
  ·rw [if_pos e,if_pos (by omega)]
   unfold cmpI
   by_cases e4:(p:Int)<q
   ·rw [if_pos e4,if_pos (by omega)]
   ·rw [if_neg e4,if_neg (by omega)]
    rw [if_pos (by omega),if_pos (by omega)]
theorem num8_order (x y:Nat) (hx:x<18446744073709551616) (hy:y<18446744073709551616):cmpB (num8 x) (num8 y)=cmpI x y:=by
 have:=be_order (num8 x) (num8 y) 0 0 rfl
 rw [if_neg (fun k=>k rfl)] at this
 rw [←this]
 have h1:=be8_num8 x hx
 have h2:=be8_num8 y hy
 unfold be8 at h1 h2
 rw [h1,h2]
theorem num8_int (m n:Int) (hm: -9223372036854775808≤m∧m≤9223372036854775807) (hn: -9223372036854775808≤n∧n≤9223372036854775807):cmpB (num8 (m+9223372036854775808).toNat) (num8 (n+9223372036854775808).toNat)=cmpI m n:=by
 rw [num8_order _ _ (by omega) (by omega)]
 have e1:(((m+9223372036854775808).toNat:Nat):Int)=m+9223372036854775808:=by omega
 have e2:(((n+9223372036854775808).toNat:Nat):Int)=n+9223372036854775808:=by omega
 rw [e1,e2]
 unfold cmpI
 by_cases h:m<n
 ·rw [if_pos h,if_pos (by omega)]
 ·rw [if_neg h,if_neg (by omega)]
  by_cases h2:n<m
  ·rw [if_pos h2,if_pos (by omega)]
  ·rw [if_neg h2,if_neg (by omega)]
theorem esc_order (a b:ByteArray):cmpB (Ux.esc a.data.toList) (Ux.esc b.data.toList)=cmpStr a b:=by
 rw [←cmpStr_B]
 have key: ∀x y:List UInt8,Op.bytesLess x y=true→Op.bytesLess (Ux.esc x) (Ux.esc y)=true:=fun x y h=>by
  rw [Ux.bytesLess_dec,decide_eq_true_eq] at h⊢
  simpa using Ux.esc_lt x y [] [] h
 have asy: ∀x y:List UInt8,Op.bytesLess x y=true→Op.bytesLess y x=false:=fun x y h=>by
  have:=Ux.slt_asymm (a:=⟨x.toArray⟩) (b:=⟨y.toArray⟩) (by unfold slt;rw [Lib.toList_data,Lib.toList_data];exact h)
  unfold slt at this
  rw [Lib.toList_data,Lib.toList_data] at this
  exact this
 by_cases e:cmpB a.data.toList b.data.toList=0
 ·rw [e,cmpB_eq e,Ux.cmpB_self]
 ·rw [Ux.cmpB_less,Ux.cmpB_less]
  rw [Ux.cmpB_less] at e
  cases h1:Op.bytesLess a.data.toList b.data.toList with
  |true=>rw [if_pos (key _ _ h1),if_pos rfl]
  |false=>
   cases h2:Op.bytesLess b.data.toList a.data.toList with
   |true=>rw [if_neg (by rw [asy _ _ (key _ _ h2)];simp),if_pos (key _ _ h2)];rfl
   |false=>rw [h1,h2] at e;exact absurd rfl e
def nmV (k n:Int) (s:ByteArray):Int×Int×ByteArray:=if okVB k n s=true then (k,n,s) else (0,0,⟨#[]⟩)
def ordN (K:ByteArray→ByteArray) (a b:Int×Int×ByteArray):Int:=if a.1≠b.1 then cmpI a.1 b.1 else if a.1=3 then cmpStr (K a.2.2) (K b.2.2) else cmpI a.2.1 b.2.1
theorem nm_cases (K:ByteArray→ByteArray) (k n:Int) (s:ByteArray):
 (nmV k n s=(0,0,⟨#[]⟩)∧valB K k n s= [1])∨(nmV k n s=(1,0,⟨#[]⟩)∧valB K k n s= [2,0])∨(nmV k n s=(1,1,⟨#[]⟩)∧valB K k n s= [2,1])∨
 (nmV k n s=(2,n,⟨#[]⟩)∧valB K k n s=3::num8 (n+9223372036854775808).toNat)∨(nmV k n s=(3,0,s)∧valB K k n s=4::Ux.esc (K s).data.toList):=by
 have h:=clV_cases K k n s
 have e:clV k n s=vV (nmV k n s).1 (nmV k n s).2.1 (nmV k n s).2.2:=by
  unfold clV nmV
  split<;>rfl
 rw [e] at h
 have inj: ∀a b:Int×Int×ByteArray,vV a.1 a.2.1 a.2.2=vV b.1 b.2.1 b.2.2→a=b:=fun a b h=>by
  unfold vV at h
  injection h with h
  obtain ⟨a1,a2,a3⟩:=a
  obtain ⟨b1,b2,b3⟩:=b
  simp only [Array.mk.injEq,List.cons.injEq,and_true,Value.int.injEq,Value.string.injEq,true_and] at h
  simp only [Prod.mk.injEq]
  exact h
 rcases h with ⟨a,b⟩|⟨a,b⟩|⟨a,b⟩|⟨a,b⟩|⟨a,b⟩
 ·exact .inl ⟨inj _ (0,0,⟨#[]⟩) a,b⟩
 ·exact .inr (.inl ⟨inj _ (1,0,⟨#[]⟩) a,b⟩)
 ·exact .inr (.inr (.inl ⟨inj _ (1,1,⟨#[]⟩) a,b⟩))
 ·exact .inr (.inr (.inr (.inl ⟨inj _ (2,n,⟨#[]⟩) a,b⟩)))
 ·exact .inr (.inr (.inr (.inr ⟨inj _ (3,0,s) a,b⟩)))
theorem isVal_B (K:ByteArray→ByteArray) (k n:Int) (s:ByteArray):IsVal (valB K k n s):=by
 rcases nm_cases K k n s with ⟨_,h⟩|⟨_,h⟩|⟨_,h⟩|⟨_,h⟩|⟨_,h⟩<;>rw [h]
 ·exact IsVal.null
 ·exact IsVal.bool 0 (by decide)
 ·exact IsVal.bool 1 (by decide)
 ·exact IsVal.int _ (num8_len _)
 ·exact IsVal.text _
theorem ord_vals (K:ByteArray→ByteArray) (a b:Int×Int×ByteArray) (ha: -9223372036854775808≤a.2.1∧a.2.1≤9223372036854775807) (hb: -9223372036854775808≤b.2.1∧b.2.1≤9223372036854775807):
 cmpB (valB K a.1 a.2.1 a.2.2) (valB K b.1 b.2.1 b.2.2)=ordN K (nmV a.1 a.2.1 a.2.2) (nmV b.1 b.2.1 b.2.2):=by
 rcases nm_cases K a.1 a.2.1 a.2.2 with ⟨h1,h2⟩|⟨h1,h2⟩|⟨h1,h2⟩|⟨h1,h2⟩|⟨h1,h2⟩<;>rcases nm_cases K b.1 b.2.1 b.2.2 with ⟨h3,h4⟩|⟨h3,h4⟩|⟨h3,h4⟩|⟨h3,h4⟩|⟨h3,h4⟩<;>rw [h1,h2,h3,h4]
 case inr.inr.inr.inl.inr.inr.inr.inl=>rw [Ux.cmpB_cons,if_pos rfl,num8_int _ _ ha hb];simp [ordN]
 case inr.inr.inr.inr.inr.inr.inr.inr=>rw [Ux.cmpB_cons,if_pos rfl,esc_order];simp [ordN]
 all_goals (simp [Ux.cmpB_cons,ordN,cmpI,Ux.cmpB_self])
def ordP (p:PI) (a b:Int×Int×ByteArray):Int:=if p.d=true then-ordN (pK p) (nmV a.1 a.2.1 a.2.2) (nmV b.1 b.2.1 b.2.2) else ordN (pK p) (nmV a.1 a.2.1 a.2.2) (nmV b.1 b.2.1 b.2.2)
theorem val_step (p:PI) (a b:Int×Int×ByteArray) (ha: -9223372036854775808≤a.2.1∧a.2.1≤9223372036854775807) (hb: -9223372036854775808≤b.2.1∧b.2.1≤9223372036854775807) (X Y:List UInt8):
 cmpB ((pvB p a).data.toList++X) ((pvB p b).data.toList++Y)=if ordP p a b≠0 then ordP p a b else cmpB X Y:=by
 have h:=ord_vals (pK p) a b ha hb
 have va:=isVal_B (pK p) a.1 a.2.1 a.2.2
 have vb:=isVal_B (pK p) b.1 b.2.1 b.2.2
 unfold pvB valP ordP
 rw [←h]
 generalize valB (pK p) a.1 a.2.1 a.2.2=A at*
 generalize valB (pK p) b.1 b.2.1 b.2.2=B at*
 show cmpB ((if p.d=true then turn A else A)++X) ((if p.d=true then turn B else B)++Y)=_
 by_cases e:A=B
 ·subst e
  rw [cmpB_same,Ux.cmpB_self]
  simp
 ·have hn:cmpB A B≠0:=fun k=>e (cmpB_eq k)
  obtain ⟨f1,f2⟩:=val_first va vb e X Y
  cases p.d with
  |true=>
   rw [if_pos rfl,if_pos rfl,if_pos rfl,f2,if_pos (by omega)]
  |false=>
   simp only [Bool.false_eq_true,if_false]
   rw [f1,if_pos hn]
def wantK (m n:Int):List (((Int×Int×ByteArray)×(Int×Int×ByteArray))×PI)→Int
 | []=>cmpI m n
 |x::r=>if ordP x.2 x.1.1 x.1.2≠0 then ordP x.2 x.1.1 x.1.2 else wantK m n r
theorem key_order (m n:Int) (hm: -9223372036854775808≤m∧m≤9223372036854775807) (hn: -9223372036854775808≤n∧n≤9223372036854775807): ∀(q:List (((Int×Int×ByteArray)×(Int×Int×ByteArray))×PI)),(∀x∈q,(-9223372036854775808≤x.1.1.2.1∧x.1.1.2.1≤9223372036854775807)∧(-9223372036854775808≤x.1.2.2.1∧x.1.2.2.1≤9223372036854775807))→
 cmpB (keyRow (q.map fun x=>(x.1.1,x.2)) m) (keyRow (q.map fun x=>(x.1.2,x.2)) n)=wantK m n q
 | [],_=>by
   show cmpB (5::num8 _) (5::num8 _)=cmpI m n
   rw [Ux.cmpB_cons,if_pos rfl,num8_int m n hm hn]
 |x::q,h=>by
  have ih:=key_order m n hm hn q fun y hy=>h y (by simp [hy])
  have hx:=h x (by simp)
  have e1:keyRow ((x::q).map fun x=>(x.1.1,x.2)) m=(pvB x.2 x.1.1).data.toList++keyRow (q.map fun x=>(x.1.1,x.2)) m:=by unfold keyRow lowL;simp
  have e2:keyRow ((x::q).map fun x=>(x.1.2,x.2)) n=(pvB x.2 x.1.2).data.toList++keyRow (q.map fun x=>(x.1.2,x.2)) n:=by unfold keyRow lowL;simp
  rw [e1,e2,val_step x.2 x.1.1 x.1.2 hx.1 hx.2,ih]
  rfl
end Go.Proofs.YtfccjaboicpohaaGreatDoor
