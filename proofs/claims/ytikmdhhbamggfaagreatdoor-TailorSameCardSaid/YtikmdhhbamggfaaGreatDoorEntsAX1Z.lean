/- A part of the proof that the statement holds for every input that it names. No other condition. -/
import Derived.Test.YtikmdhhbamggfaaGreatDoorEntsAZ
import Derived.Test.YtikmdhhbamggfaaGreatDoorTableAX1Z
set_option linter.unusedVariables false
set_option linter.unusedSimpArgs false
namespace Go.Proofs.YtikmdhhbamggfaaGreatDoor
open Go.RowKit
open Ux (Row iv sv Ent ev okT SameE SortedE EArr EP)
set_option maxHeartbeats 8000000 in
set_option maxRecDepth 100000 in
theorem like_ (B mb:Nat) (E T:List Ent) (v:Value) (A:Nat→Prop) (w:World) (hT:TableAt w B mb E) (hE:E.length≤1000) (hS:SameE E T) (hR:RRows w A v T):
 Calls Tryz.prog 44 #[.pointer (some ⟨B,0,none⟩),.agg #[v]] w fun e w'=>e= .returned (.bool true)∧Ux.Touch (fun _=>False) w w':=by
 have hok:=hT.1.1
 have hRR:=hR
 obtain ⟨_,a,ca,rfl,_,hca⟩:=hR
 obtain ⟨n,hn⟩: ∃n,T.length=n:=⟨_,rfl⟩
 rw [hn] at hRR⊢
 have n0:(n:Int)≤1000:=by have:=hS.1.length_eq;omega
 have HH:=Lib.hid (And.intro hca (And.intro hn (And.intro hok (And.intro hS hRR))))
 have HT:=Lib.hid (And.intro hT hE)
 clear hT hE hS hRR hca hn hok
 go_enter Tryz.func44,Tryz.ntmps44
 have hbox:(w.alloc (Obj.cells #[Value.slice a n ca] 28)).cell? ⟨w.heap.size,0,none⟩=some (.slice a n ca):=by rw [Ux.cell_newg];rfl
 have hT1:Ux.Touch (fun _=>False) w (w.alloc (Obj.cells #[Value.slice a n ca] 28)):=(Ux.Touch.refl _ _).alloc _
 have HEN:=Lib.hid (entries_ B mb E (w.alloc (Obj.cells #[Value.slice a n ca] 28)) (HT.out.1.touch0 hT1) HT.out.2)
 have HT1:=Lib.hid hT1
 clear hT1
 go_wp2_with (go_at_call 86;fail)
 refine HEN.out.mono ?_
 rintro e w2 ⟨u,P,rfl,hEA,hP,hso,T2⟩
 have hPT:P.map (·.2.2)=T:=Ux.sorted_unique (hP.symm.trans HH.out.2.2.2.1.1) hso HH.out.2.2.2.1.2
 obtain ⟨hE1,a2,rfl,hE2,_⟩:=hEA
 have hPn:P.length=n:=by rw [←HH.out.2.1,←hPT];simp
 rw [hPn]
 have hbox2:=T2.cell hbox (fun f=>f)
 have HX:=Lib.hid (And.intro hE1 (And.intro hE2 (And.intro hPT (And.intro hPn (HT1.out.trans T2 fun _ _ f=>f)))))
 clear hE1 hE2 hPT hPn T2 hP hso hbox
 go_wp2_with (fail)
 go_loopg [6] n (fun g s6 wr=> ∃i:Nat,s6= .int .i64 i∧i+g=n∧wr.cell? ⟨w.heap.size,0,none⟩=some (.slice a n ca)∧Hid (Ux.Touch (fun _=>False) w2 wr))
 case atStart=>exact ⟨0,rfl,by omega,hbox2,Lib.hid (Ux.Touch.refl _ _)⟩
 case round=>
  clear hbox2
  obtain ⟨i,rfl,hig,hbox,HI⟩:=hrel
  have i0:(0:Int)≤i:=by omega
  by_cases hlt:i<n
  ·obtain ⟨g',rfl⟩: ∃g',gk=g'+1:=⟨gk-1,by omega⟩
   have i1:(i:Int)<n:=by omega
   obtain ⟨e,he⟩: ∃e,T[i]? =some e:=⟨_,List.getElem?_eq_getElem (by have:=HH.out.2.1;omega)⟩
   obtain ⟨p,hp⟩: ∃p,P[i]? =some p:=⟨_,List.getElem?_eq_getElem (by have:=HX.out.2.2.2.1;omega)⟩
   have hpe:p.2.2=e:=by
    have h1:=HX.out.2.2.1
    rw [←h1,List.getElem?_map,hp] at he
    exact Option.some.inj he
   obtain ⟨g1,rfl,_,c1,c2⟩:=HX.out.2.1 i p hp
   obtain ⟨g2,o2,x,y,rfl,d1,d2,hxy⟩:=HH.out.1 i e he
   obtain ⟨r1,r2,_⟩:=HX.out.1.1 p (List.mem_of_getElem? hp)
   have Tw:=HX.out.2.2.2.2.trans HI.out fun _ _ f=>f
   have c1:=HI.out.cell c1 (fun f=>f)
   have c2:=HI.out.cell c2 (fun f=>f)
   have d1:=Tw.cell d1 (fun f=>f)
   have d2:=Tw.cell d2 (fun f=>f)
   have hok:=HH.out.2.2.1.2 e (HH.out.2.2.2.1.1.mem_iff.2 (List.mem_of_getElem? he))
   rw [hpe] at r1 r2
   have HS1:=Lib.hid fun W (T1:Ux.Touch (fun _=>False) wr W)=>sameInts_ p.1 x (sv e.1) (sv e.1) W (IView.row ((r1.touch0 HI.out).touch0 T1)) (((hxy.touch0 Tw).touch0 T1).1.1.i) (by rw [Ux.sv_length];have:=hok.1.2.1;omega) (by rw [Ux.sv_length];have:=hok.1.2.1;omega)
   have HS2:=Lib.hid fun W (T1:Ux.Touch (fun _=>False) wr W)=>same_ p.2.1 y e.2 e.2 W (((r2.touch0 HI.out).touch0 T1).mono (Nat.zero_le _)) (((hxy.touch0 Tw).touch0 T1).1.2) hok.2.2 (by have:=hok.2.1;omega) (by have:=hok.2.1;omega)
   simp only [beq_self_eq_true] at HS1 HS2
   obtain ⟨p1,p2,p3⟩:=p
   obtain ⟨b1,m1,k1,rfl⟩:=r1.lit
   obtain ⟨b2,m2,k2,rfl⟩:=r2.lit
   have hxy1:=hxy.1
   obtain ⟨⟨a3,k3,rfl,_⟩,⟨a4,k4,rfl,_⟩⟩:=hxy1
   obtain ⟨m3,hm3⟩: ∃m,e.1.length=m:=⟨_,rfl⟩
   obtain ⟨m4,hm4⟩: ∃m,e.2.length=m:=⟨_,rfl⟩
   have HS1:=HS1.out
   have HS2:=HS2.out
   rw [hm3] at HS1 d1
   rw [hm4] at HS2 d2
   have HS1:=Lib.hid HS1
   have HS2:=Lib.hid HS2
   have HQ:=Lib.hid fun W (T1:Ux.Touch (fun _=>False) wr W)=>And.intro (T1.cell hbox (fun f=>f)) (And.intro (T1.cell c1 (fun f=>f)) (And.intro (T1.cell c2 (fun f=>f)) (And.intro (T1.cell d1 (fun f=>f)) (T1.cell d2 (fun f=>f)))))
   clear hm3 hm4 r1 r2 hxy hpe hp he Tw hok hlt
   go_upto_region 9 with (fail)
   refine Ux.wpr (fun _ w'=>w'.cell? ⟨w.heap.size,0,none⟩=some (.slice (some ⟨g2,o2,none⟩) n ca)∧w'.cell? ⟨g1,i*2,none⟩=some (.slice b1 m1 k1)∧w'.cell? ⟨g1,i*2+1,none⟩=some (.slice b2 m2 k2)∧w'.cell? ⟨g2,o2+i*2,none⟩=some (.slice a3 m3 k3)∧w'.cell? ⟨g2,o2+i*2+1,none⟩=some (.slice a4 m4 k4)) (.q [0,1,2,3,5,7] (.h false [4,6] (.q [8,9] (.h false [10] (.e 11 true false (.q [12,13,14,15,16,17,19,21] (.h false [18,20] (.q [22,23] (.h false [24] (.e 25 true false (.q [26,27] (.line [])))))))))))) ?_;repeat ((with_reducible refine Ux.qg ?_);refine Ux.qu ?_)
   clear hbox c1 c2 d1 d2
   have T0:=Lib.hid (Ux.Touch.refl (fun _=>False) wr).drew
   go_wp2_with (go_at_call 21;fail)
   refine (HS1.out _ T0.out).mono ?_
   rintro e3 w3 ⟨rfl,T3⟩
   have T3:=Lib.hid (T0.out.trans T3 fun _ _ f=>f)
   go_wp2_with (fail)
   refine ⟨HQ.out _ T3.out,?_⟩
   repeat ((with_reducible refine Ux.qg ?_);refine Ux.qu ?_)
   go_wp2_with (go_at_call 58;fail)
   refine (HS2.out _ T3.out).mono ?_
   rintro e4 w4 ⟨rfl,T4⟩
   have T4:=Lib.hid (T3.out.trans T4 fun _ _ f=>f)
   go_wp2_with (fail)
   refine ⟨HQ.out _ T4.out,?_⟩
   repeat ((with_reducible refine Ux.qg ?_);refine Ux.qu ?_)
   go_wp2
   go_roundg g'
   case measure=>omega
   case rel=>exact ⟨i+1,by congr 1,by omega,(HQ.out _ T4.out).1,Lib.hid (HI.out.trans T4.out fun _ _ f=>f)⟩
  ·have q1: ¬(i:Int)<n:=by omega
   clear hlt
   go_wp2
   go_ret
   exact ⟨rfl,HX.out.2.2.2.2.trans HI.out fun _ _ f=>f⟩
end Go.Proofs.YtikmdhhbamggfaaGreatDoor
