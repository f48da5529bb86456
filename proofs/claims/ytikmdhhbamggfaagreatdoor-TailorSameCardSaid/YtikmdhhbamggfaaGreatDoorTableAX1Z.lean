/- A part of the proof that the statement holds for every input that it names. No other condition. -/
import Derived.Test.YtikmdhhbamggfaaGreatDoorTableAZ
set_option linter.unusedVariables false
set_option linter.unusedSimpArgs false
namespace Go.Proofs.YtikmdhhbamggfaaGreatDoor
open Go.RowKit
open Ux (Row iv sv bv ev eP eS eT eV)
theorem or_low (a b k K:Nat) (hK:2^k=K) (hb:b<K) (h:a*K+b<4294967296):bits .or .u32 ((a*K:Nat):Int) (b:Int)=(a*K+b:Nat):=by
 show IntKind.u32.wrap ((BitVec.ofInt 32 ((a*K:Nat):Int)|||BitVec.ofInt 32 (b:Int)).toNat:Nat)=_
 have e1:(BitVec.ofInt 32 ((a*K:Nat):Int)).toNat=a*K:=by rw [BitVec.toNat_ofInt];omega
 have e2:(BitVec.ofInt 32 (b:Int)).toNat=b:=by rw [BitVec.toNat_ofInt];omega
 rw [BitVec.toNat_or,e1,e2]
 have:=Nat.shiftLeft_add_eq_or_of_lt (b:=b) (i:=k) (by rw [hK];exact hb) a
 rw [Nat.shiftLeft_eq,hK] at this
 rw [←this,IntKind.wrap_u32]
 omega
theorem word_bits (p s t:Nat) (hp:p<65536) (hs:s<256) (ht:t<128):
 bits .or .u32 (bits .or .u32 ((p:Int)*65536) ((s:Int)*256)) ((t:Int)*2)=(p*65536+s*256+t*2:Nat)∧bits .or .u32 ((p*65536+s*256+t*2:Nat):Int) 1=(p*65536+s*256+t*2+1:Nat):=by
 have f1:((p*65536:Nat):Int)=(p:Int)*65536:=Int.natCast_mul p 65536
 have f2:((s*256:Nat):Int)=(s:Int)*256:=Int.natCast_mul s 256
 have f3:((t*2:Nat):Int)=(t:Int)*2:=Int.natCast_mul t 2
 have f4:(p*256+s)*256=p*65536+s*256:=by omega
 have f5:(p*32768+s*128+t)*2=p*65536+s*256+t*2:=by rw [Nat.add_mul,Nat.add_mul,Nat.mul_assoc,Nat.mul_assoc]
 have e1:=or_low p (s*256) 16 65536 (by decide) (by omega) (by omega)
 have e2:=or_low (p*256+s) (t*2) 8 256 (by decide) (by omega) (by omega)
 have e3:=or_low (p*32768+s*128+t) 1 1 2 rfl (by omega) (by omega)
 rw [f1,f2] at e1
 rw [f4,f3] at e2
 rw [f5] at e3
 refine ⟨?_,e3⟩
 rw [e1,e2]
set_option maxHeartbeats 4000000 in
theorem word_ (x:Nat) (hx:x<4294967296) (w:World):Calls Tryz.prog 111 #[.agg #[.int .i64 (eP x:Nat),.int .i64 (eS x:Nat),.int .i64 (eT x:Nat),.bool (eV x)]] w fun e w'=>e= .returned (.int .u32 x)∧Ux.Touch (fun _=>False) w w':=by
 have p1:(eP x:Int)<65536:=by unfold eP;omega
 have s1:(eS x:Int)<256:=by unfold eS;omega
 have t1:(eT x:Int)<128:=by unfold eT;omega
 obtain ⟨p,hp⟩: ∃p,eP x=p:=⟨_,rfl⟩
 obtain ⟨s,hs⟩: ∃s,eS x=s:=⟨_,rfl⟩
 obtain ⟨t,ht⟩: ∃t,eT x=t:=⟨_,rfl⟩
 obtain ⟨v,hv⟩: ∃v,eV x=v:=⟨_,rfl⟩
 rw [hp] at p1⊢
 rw [hs] at s1⊢
 rw [ht] at t1⊢
 rw [hv]
 have H:=Lib.hid (And.intro hp (And.intro hs (And.intro ht hv)))
 clear hp hs ht hv
 obtain ⟨b1,b2⟩:=word_bits p s t (by omega) (by omega) (by omega)
 have hx1:p*65536+s*256+t*2+(if v then 1 else 0)=x:=by
  have h1:=H.out.1
  have h2:=H.out.2.1
  have h3:=H.out.2.2.1
  have h4:=H.out.2.2.2
  unfold eP at h1
  unfold eS at h2
  unfold eT at h3
  unfold eV at h4
  subst h4
  by_cases hb:x % 2=1<;>simp [hb]<;>omega
 obtain ⟨y,hy⟩: ∃y,p*65536+s*256+t*2=y:=⟨_,rfl⟩
 rw [hy] at b1 b2 hx1
 have HX:=Lib.hid hx1
 clear hx1 hy hx
 go_enter Tryz.func111,Tryz.ntmps111
 cases v
 all_goals go_wp2
 all_goals go_ret
 all_goals refine ⟨congrArg (fun b=>Ending.returned (Value.int .u32 b)) ?_,(Ux.Touch.refl _ w).alloc _⟩
 ·rw [←HX.out];simp
 ·rw [←HX.out];simp
set_option maxHeartbeats 8000000 in
set_option maxRecDepth 100000 in
theorem same_ (va vb:Value) (la lb:List Nat) (w:World) (ha:Row w 0 100 va (ev la)) (hb:RRow w vb lb) (hx: ∀x∈lb,x<4294967296) (h1:la.length≤1000000000) (h2:lb.length≤1000000000):
 Calls Tryz.prog 58 #[va,vb] w fun e w'=>e= .returned (.bool (la==lb))∧Ux.Touch (fun _=>False) w w':=by
 obtain ⟨a,ca,rfl,hca⟩:=ha.is
 obtain ⟨b,cb,rfl,hcb⟩:=hb
 rw [Ux.ev_length]
 obtain ⟨n,hn⟩: ∃n,la.length=n:=⟨_,rfl⟩
 obtain ⟨m,hm⟩: ∃m,lb.length=m:=⟨_,rfl⟩
 obtain ⟨R,hR⟩: ∃R,(la==lb)=R:=⟨_,rfl⟩
 rw [hn] at h1⊢
 rw [hm] at h2⊢
 rw [hR]
 have n0:(n:Int)≤1000000000:=by omega
 have m0:(m:Int)≤1000000000:=by omega
 have HH:=Lib.hid (And.intro hca (And.intro hcb (And.intro hx (And.intro hn hm))))
 have HR:=Lib.hid hR
 clear hca hcb hx hn hm hR h1 h2 ha
 go_enter Tryz.func58,Tryz.ntmps58
 by_cases hnm:n=m
 ·subst hnm
  go_wp2
  go_loopg [5] n (fun g s5 wr=> ∃i:Nat,s5= .int .i64 i∧i+g=n∧Hid ((la.drop i==lb.drop i)=R∧Ux.Touch (fun _=>False) w wr))
  case atStart=>exact ⟨0,rfl,by omega,Lib.hid ⟨HR.out,Ux.Touch.refl _ _⟩⟩
  case round=>
   obtain ⟨i,rfl,hig,HI⟩:=hrel
   have p0:(0:Int)≤i:=by omega
   by_cases hlt:i<n
   ·obtain ⟨g',rfl⟩: ∃g',gk=g'+1:=⟨gk-1,by omega⟩
    obtain ⟨x,hx⟩: ∃x,la[i]? =some x:=⟨_,List.getElem?_eq_getElem (by have:=HH.out.2.2.2.1;omega)⟩
    obtain ⟨y,hy⟩: ∃y,lb[i]? =some y:=⟨_,List.getElem?_eq_getElem (by have:=HH.out.2.2.2.2;omega)⟩
    obtain ⟨ga,rfl,_,c0⟩:=HH.out.1 i _ (Ux.ev_get hx)
    obtain ⟨gb,ob,rfl,c1,c2,c3,c4⟩:=HH.out.2.1 i y hy
    have T:=HI.out.2
    have c0:=T.cell c0 (fun f=>f)
    have c1:=T.cell c1 (fun f=>f)
    have c2:=T.cell c2 (fun f=>f)
    have c3:=T.cell c3 (fun f=>f)
    have c4:=T.cell c4 (fun f=>f)
    have hd:(la.drop i==lb.drop i)=((x==y)&&(la.drop (i+1)==lb.drop (i+1))):=by
     rw [Ux.drop_get hx,Ux.drop_get hy]
     rfl
    have HW:=Lib.hid fun W=>word_ y (HH.out.2.2.1 y (List.mem_of_getElem? hy)) W
    have hcs: ∀w',Ux.Touch (fun _=>False) wr w'→w'.cell? ⟨ga,i,none⟩=some (.int .u32 (x:Int))∧w'.cell? ⟨gb,ob+i*4,none⟩=some (.int .i64 (eP y:Nat))∧w'.cell? ⟨gb,ob+i*4+1,none⟩=some (.int .i64 (eS y:Nat))∧w'.cell? ⟨gb,ob+i*4+2,none⟩=some (.int .i64 (eT y:Nat))∧w'.cell? ⟨gb,ob+i*4+3,none⟩=some (.bool (eV y)):=
     fun w' T=>⟨T.cell c0 (fun f=>f),T.cell c1 (fun f=>f),T.cell c2 (fun f=>f),T.cell c3 (fun f=>f),T.cell c4 (fun f=>f)⟩
    have HC:=Lib.hid hcs
    have i1:(i:Int)<n:=by omega
    have HD:=Lib.hid hd
    clear hd hx hy hlt T hcs
    go_upto_region 6 with (fail)
    refine Ux.wpr (fun _ w'=>w'.cell? ⟨ga,i,none⟩=some (.int .u32 (x:Int))∧w'.cell? ⟨gb,ob+i*4,none⟩=some (.int .i64 (eP y:Nat))∧w'.cell? ⟨gb,ob+i*4+1,none⟩=some (.int .i64 (eS y:Nat))∧w'.cell? ⟨gb,ob+i*4+2,none⟩=some (.int .i64 (eT y:Nat))∧w'.cell? ⟨gb,ob+i*4+3,none⟩=some (.bool (eV y))) (.q [0,1,2,4,5,6] (.h false [3,7] (.e 8 true false (.q [9] (.line []))))) ?_;repeat ((with_reducible refine Ux.qg ?_);refine Ux.qu ?_)
    clear c0 c1 c2 c3 c4
    go_wp2_with (go_at_call 111;fail)
    refine (HW.out _).mono ?_
    rintro e w4 ⟨rfl,T4⟩
    have T4:=Lib.hid ((Ux.Touch.refl (fun _=>False) wr).drew.trans T4 fun _ _ f=>f)
    go_wp2_with (fail)
    refine ⟨HC.out _ T4.out,?_⟩
    cases hxy:decide (x=y) with
    |true=>
     have hxy:=of_decide_eq_true hxy
     subst hxy
     repeat ((with_reducible refine Ux.qg ?_);refine Ux.qu ?_)
     go_wp2
     go_roundg g'
     case measure=>omega
     case rel=>exact ⟨i+1,by congr 1,by omega,Lib.hid ⟨by have:=HD.out;simp only [beq_self_eq_true,Bool.true_and] at this;rw [←HI.out.1,this],HI.out.2.trans T4.out fun _ _ f=>f⟩⟩
    |false=>
     have q2:((x:Int) !=y)=true:=by have:=of_decide_eq_false hxy;simp;omega
     have hxy2:(x==y)=false:=by have:=of_decide_eq_false hxy;simp;exact this
     have HXY:=Lib.hid hxy2
     clear hxy hxy2
     repeat ((with_reducible refine Ux.qg ?_);refine Ux.qu ?_)
     go_wp2
     go_ret
     refine ⟨?_,HI.out.2.trans T4.out fun _ _ f=>f⟩
     rw [←HI.out.1,HD.out,HXY.out]
     rfl
   ·have q1: ¬(i:Int)<n:=by omega
    have hr0:R=true:=by
     rw [←HI.out.1,List.drop_eq_nil_of_le (by have:=HH.out.2.2.2.1;omega),List.drop_eq_nil_of_le (by have:=HH.out.2.2.2.2;omega)]
     rfl
    subst hr0
    clear hlt
    go_wp2
    go_ret
    exact ⟨rfl,HI.out.2⟩
 ·have q:((n:Int)==m)=false:=by simp;omega
  clear hnm
  go_wp2
  go_ret
  refine ⟨?_,Ux.Touch.refl _ _⟩
  have:R=false:=by
   rw [←HR.out]
   cases h:la==lb with
   |false=>rfl
   |true=>
    have:=eq_of_beq h
    subst this
    have h1:=HH.out.2.2.2.1
    have h2:=HH.out.2.2.2.2
    simp at q
    omega
  rw [this]
  rfl
end Go.Proofs.YtikmdhhbamggfaaGreatDoor
