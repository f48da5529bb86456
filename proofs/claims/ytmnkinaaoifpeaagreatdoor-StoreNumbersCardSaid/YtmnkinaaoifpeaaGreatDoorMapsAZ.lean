/- A part of the proof that the statement holds for every input that it names. No other condition. -/
import Derived.Test.YtmnkinaaoifpeaaGreatDoorRefAZ
set_option linter.unusedVariables false
set_option linter.unusedSimpArgs false
namespace Go.Proofs.YtmnkinaaoifpeaaGreatDoor
open Go.RowKit
open Ux (eP eS eT eV)
set_option maxHeartbeats 8000000 in
set_option maxRecDepth 100000 in
theorem rok_ (x:Nat) (w:World):Calls Tryz.prog 205 #[.agg #[.int .i64 (eP x:Nat),.int .i64 (eS x:Nat),.int .i64 (eT x:Nat),.bool (eV x)]] w fun e w'=>e= .returned (.bool (okW x))∧Ux.Touch (fun _=>False) w w':=by
 unfold okW
 obtain ⟨p,hp⟩: ∃p,eP x=p:=⟨_,rfl⟩
 obtain ⟨s,hs⟩: ∃s,eS x=s:=⟨_,rfl⟩
 obtain ⟨t,ht⟩: ∃t,eT x=t:=⟨_,rfl⟩
 obtain ⟨v,hv⟩: ∃v,eV x=v:=⟨_,rfl⟩
 rw [hp,hs,ht,hv]
 clear hp hs ht hv
 have z: ∀n:Nat,n≠0→((n:Int)==0)=false:=fun n h=>by simpa using h
 have zz:((0:Nat):Int)=0:=rfl
 rcases Nat.eq_zero_or_pos p with rfl|hp<;>rcases Nat.eq_zero_or_pos s with rfl|hs<;>rcases Nat.eq_zero_or_pos t with rfl|ht
 all_goals
  (try have p1:=z p (by omega))
  (try have s1:=z s (by omega))
  (try have t1:=z t (by omega))
  clear z
  (try simp only [zz])
  go_enter Tryz.func205,Tryz.ntmps205
  cases v
  all_goals go_wp2
  all_goals go_ret
  all_goals refine ⟨congrArg (fun b=>Ending.returned (Value.bool b)) ?_,(Ux.Touch.refl _ w).alloc _⟩
  all_goals first|(simp [*];done)|(simp [*]<;>omega)
end Go.Proofs.YtmnkinaaoifpeaaGreatDoor
namespace Go.Proofs.YtmnkinaaoifpeaaGreatDoor
open Go.RowKit
open Ux (Ent sv findE eP eS eT eV)
theorem SView.cut {w:World} {a:Option Addr} {n c k:Nat} {s:List Nat} (h:SView w (.slice a n c) s) (hk:k≤s.length) (c':Nat):SView w (.slice a k c') (s.take k):=by
 obtain ⟨a',c2,e,h⟩:=h
 cases e
 refine ⟨a,c',by rw [List.length_take,Nat.min_eq_left hk],fun j x hx=> ?_⟩
 rw [List.getElem?_take] at hx
 split at hx
 ·exact h j x hx
 ·cases hx
theorem goodEnt_all {T:List Ent} (h: ∀(i:Nat) (e:Ent),i<T.length→T[i]? =some e→goodEnt T e=true):checkE T=true:=by
 refine List.all_eq_true.2 fun e he=> ?_
 obtain ⟨i,hi,rfl⟩:=List.mem_iff_getElem.1 he
 exact h i _ hi (List.getElem?_eq_getElem hi)
set_option maxHeartbeats 16000000 in
set_option maxRecDepth 100000 in
theorem rcheck_ (v:Value) (T:List Ent) (A:Nat→Prop) (w:World) (hT:RRows w A v T) (h1:T.length≤10000) (h8: ∀e∈T,e.2.length≤1000) (h3: ∀e∈T,1≤e.1.length∧e.1.length≤3):
 Calls Tryz.prog 156 #[.agg #[v]] w fun e w'=>e= .returned (.int .i64 (if checkE T then 0 else 3))∧Ux.Touch (fun _=>False) w w':=by
 have hTT:=hT
 obtain ⟨_,a,ca,rfl,_,hca⟩:=hT
 obtain ⟨n,hn⟩: ∃n,T.length=n:=⟨_,rfl⟩
 obtain ⟨R,hR⟩: ∃R:Int,(if checkE T then 0 else 3)=R:=⟨_,rfl⟩
 rw [hn] at h1 hTT⊢
 rw [hR]
 have n0:(n:Int)≤10000:=by omega
 have HH:=Lib.hid (And.intro hca (And.intro hn (And.intro h8 (And.intro h3 hTT))))
 have HR:=Lib.hid hR
 have HNO:Hid (∀e∈T,goodEnt T e=false→R=3):=Lib.hid fun e he h=>by rw [←hR,checkE_no he h];rfl
 clear hca hn hR h1 h8 h3 hTT
 go_enter Tryz.func156,Tryz.ntmps156
 go_wp2
 go_loopg [3] n (fun g s3 wr=> ∃i:Nat,s3= .int .i64 i∧i+g=n∧wr.cell? ⟨w.heap.size,0,none⟩=some (.slice a n ca)∧Hid ((∀(j:Nat) (e:Ent),j<i→T[j]? =some e→goodEnt T e=true)∧Ux.Touch (fun _=>False) w wr))
 case atStart=>exact ⟨0,rfl,by omega,by simp [Ux.cell_newg],Lib.hid ⟨fun j e h _=>absurd h (Nat.not_lt_zero _),(Ux.Touch.refl _ _).alloc _⟩⟩
 case round=>
  obtain ⟨i,rfl,hig,hbox,HI⟩:=hrel
  have i0:(0:Int)≤i:=by omega
  by_cases hlt:i<n
  ·obtain ⟨g',rfl⟩: ∃g',gk=g'+1:=⟨gk-1,by omega⟩
   have i1:(i:Int)<n:=by omega
   obtain ⟨e,he⟩: ∃x,T[i]? =some x:=⟨_,List.getElem?_eq_getElem (by have:=HH.out.2.1;omega)⟩
   obtain ⟨g0,o,x,y,rfl,c1,c2,hE⟩:=HH.out.1 i e he
   have hem:=List.mem_of_getElem? he
   have hcap:=hE.2.2.2
   have hs:=hE.1.1
   have hl:=hE.1.2
   obtain ⟨a1,k1,rfl,_⟩:=hE.1.1
   obtain ⟨a2,k2,rfl,_⟩:=hE.1.2
   obtain ⟨m1,hm1⟩: ∃m,e.1.length=m:=⟨_,rfl⟩
   obtain ⟨m2,hm2⟩: ∃m,e.2.length=m:=⟨_,rfl⟩
   have q1:=HH.out.2.2.1 e hem
   have q2:=HH.out.2.2.2.1 e hem
   rw [hm1] at c1 hcap hs q2
   rw [hm2] at c2 hl q1
   have hcap:m1≤k1:=hcap
   have m10:(1:Int)≤m1:=by omega
   have m13:(m1:Int)≤3:=by omega
   have m1k:(m1:Int)≤k1:=by omega
   have m20:(m2:Int)≤1000:=by omega
   have HX:=Lib.hid (And.intro he (And.intro hem (And.intro hs (And.intro hl (And.intro hm1 (And.intro hm2 (And.intro c1 c2)))))))
   have HQ:Hid (∀W,Ux.Touch (fun _=>False) w W→W.cell? ⟨g0,o+i*2,none⟩=some (.slice a1 m1 k1)∧W.cell? ⟨g0,o+i*2+1,none⟩=some (.slice a2 m2 k2)):=Lib.hid fun W T=>⟨T.cell c1 (fun f=>f),T.cell c2 (fun f=>f)⟩
   obtain ⟨c1,c2⟩:=HQ.out _ HI.out.2
   have hm11:1≤m1:=by omega
   clear he hem hs hl hm1 hm2 q1 q2 hE hcap hlt
   go_wp2_with (fail)
   go_loopg [4] m2 (fun g s4 wr=> ∃j:Nat,s4= .int .i64 j∧j+g=m2∧wr.cell? ⟨w.heap.size,0,none⟩=some (.slice (some ⟨g0,o,none⟩) n ca)∧Hid ((∀(l x:Nat),l<j→e.2[l]? =some x→badW x=false)∧Ux.Touch (fun _=>False) w wr))
   case atStart=>exact ⟨0,rfl,by omega,hbox,Lib.hid ⟨fun l x h _=>absurd h (Nat.not_lt_zero _),HI.out.2⟩⟩
   case round=>
    clear c1 c2 hbox
    obtain ⟨j,rfl,hjg,hbox,HJ⟩:=hrel
    have j0:(0:Int)≤j:=by omega
    obtain ⟨c1,c2⟩:=HQ.out _ HJ.out.2
    by_cases hj:j<m2
    ·obtain ⟨h',rfl⟩: ∃h',gk=h'+1:=⟨gk-1,by omega⟩
     have j1:(j:Int)<m2:=by omega
     obtain ⟨x,hx⟩: ∃x,e.2[j]? =some x:=⟨_,List.getElem?_eq_getElem (by have:=HX.out.2.2.2.2.2.1;omega)⟩
     obtain ⟨a',c',ee,hc⟩:=HX.out.2.2.2.1
     injection ee with e1 _ _
     subst e1
     obtain ⟨g2,o2,e2,d1,d2,d3,d4⟩:=hc j x hx
     subst e2
     have HQ2:=Lib.hid fun W (T:Ux.Touch (fun _=>False) w W)=>And.intro (T.cell d1 (fun f=>f)) (And.intro (T.cell d2 (fun f=>f)) (And.intro (T.cell d3 (fun f=>f)) (T.cell d4 (fun f=>f))))
     obtain ⟨d1,d2,d3,d4⟩:=HQ2.out _ HJ.out.2
     obtain ⟨b,hb⟩: ∃b,okW x=b:=⟨_,rfl⟩
     have hk:=rok_ x wr
     rw [hb] at hk
     obtain ⟨pp,hpp⟩: ∃pp,eP x=pp:=⟨_,rfl⟩
     rw [hpp] at hk d1 HQ2
     have HK:=Lib.hid hk
     have HB:=Lib.hid (And.intro hb (And.intro hx hpp))
     clear hk hb hx hpp hc hj
     go_wp2_with (go_at_call 205;fail)
     refine HK.out.mono ?_
     rintro e4 w4 ⟨rfl,T4⟩
     have T04:=HJ.out.2.trans T4 fun _ _ f=>f
     obtain ⟨k1',k2'⟩:=HQ.out _ T04
     obtain ⟨k3',_,_,_⟩:=HQ2.out _ T04
     have hbox4:=T4.cell hbox (fun f=>f)
     have H4:=Lib.hid T04
     clear c1 c2 d1 d2 d3 d4 hbox T4 T04
     cases b with
     |false=>
      go_wp2
      go_ret
      refine ⟨?_,H4.out⟩
      rw [HNO.out e HX.out.2.1 (goodEnt_no2 (List.any_eq_true.2 ⟨x,List.mem_of_getElem? HB.out.2.1,by unfold badW;rw [HB.out.1];rfl⟩))]
      rfl
     |true=>
      by_cases h64:64256≤pp
      ·have p1:(64256:Int)≤pp:=by omega
       have HP:=Lib.hid h64
       clear h64
       go_wp2
       go_ret
       refine ⟨?_,H4.out⟩
       rw [HNO.out e HX.out.2.1 (goodEnt_no2 (List.any_eq_true.2 ⟨x,List.mem_of_getElem? HB.out.2.1,by unfold badW;rw [HB.out.2.2,decide_eq_true HP.out,Bool.or_true]⟩))]
       rfl
      ·have p1:decide ((64256:Int)≤pp)=false:=decide_eq_false (by omega)
       have p2:decide (64256≤pp)=false:=decide_eq_false h64
       have HP:=Lib.hid h64
       clear h64
       go_wp2
       go_roundg h'
       case measure=>omega
       case rel=>
        refine ⟨j+1,by congr 1,by omega,hbox4,Lib.hid ⟨fun l z h1 h2=> ?_,H4.out⟩⟩
        by_cases hlj:l=j
        ·subst hlj
         have:z=x:=Option.some.inj (h2.symm.trans HB.out.2.1)
         subst this
         unfold badW
         rw [HB.out.1,HB.out.2.2,decide_eq_false HP.out]
         rfl
        ·exact HJ.out.1 l z (by omega) h2
    ·obtain rfl:m2=j:=by omega
     clear hj
     have HBW:Hid (e.2.any badW=false):=Lib.hid (List.any_eq_false.2 fun x hx=>by
      obtain ⟨l,hl,rfl⟩:=List.mem_iff_getElem.1 hx
      rw [HJ.out.1 l _ (by have:=HX.out.2.2.2.2.2.1;omega) (List.getElem?_eq_getElem hl)]
      simp)
     go_wp2_with (fail)
     go_loopg [5] (m1-1) (fun g s5 wr=> ∃k:Nat,s5= .int .i64 k∧1≤k∧k+g=m1∧wr.cell? ⟨w.heap.size,0,none⟩=some (.slice (some ⟨g0,o,none⟩) n ca)∧Hid ((∀l,l<k→l≠0→(findE T (e.1.take l)).isSome=true)∧Ux.Touch (fun _=>False) w wr))
     case atStart=>exact ⟨1,rfl,Nat.le_refl _,by omega,hbox,Lib.hid ⟨fun l h1 h2=>absurd h1 (by omega),HJ.out.2⟩⟩
     case round=>
      clear c1 c2 hbox
      obtain ⟨k,rfl,hk1,hkg,hbox,HK⟩:=hrel
      have k0:(1:Int)≤k:=by omega
      obtain ⟨c1,c2⟩:=HQ.out _ HK.out.2
      by_cases hkn:k<m1
      ·obtain ⟨h',rfl⟩: ∃h',gk=h'+1:=⟨gk-1,by omega⟩
       have kn:(k:Int)<m1:=by omega
       have hkl:k≤e.1.length:=by have:=HX.out.2.2.2.2.1;omega
       have HF:=Lib.hid fun W (T1:Ux.Touch (fun _=>False) w W)=>rfind_ (.slice (some ⟨g0,o,none⟩) n ca) (.slice a1 k k1) T (sv (e.1.take k)) A W (HH.out.2.2.2.2.touch0 T1) ((SView.cut HX.out.2.2.1 hkl k1).touch0 T1).i (by have:=HH.out.2.1;omega) (by rw [Ux.sv_length,List.length_take];omega) (fun d hd=>by have:=HH.out.2.2.2.1 d hd;omega)
       rw [findI_sv] at HF
       obtain ⟨b,hb⟩: ∃b,(findE T (e.1.take k)).isSome=b:=⟨_,rfl⟩
       rw [hb] at HF
       have HB:=Lib.hid (And.intro hb hkl)
       clear hb hkl hkn
       have HQ3:=Lib.hid fun W (T1:Ux.Touch (fun _=>False) wr W)=>And.intro (T1.cell hbox (fun f=>f)) (T1.cell c1 (fun f=>f))
       go_upto_region 12 with (fail)
       refine Ux.wpr (fun _ w'=>w'.cell? ⟨w.heap.size,0,none⟩=some (.slice (some ⟨g0,o,none⟩) n ca)∧w'.cell? ⟨g0,o+i*2,none⟩=some (.slice a1 m1 k1)) (.h false [0] (.q [1,3,7] (.h false [2] (.q [4,5] (.h false [6] (.q [8] (.e 9 true false (.q [10,11,12,13] (.line [14]))))))))) ?_;repeat ((with_reducible refine Ux.qg ?_);refine Ux.qu ?_)
       clear c1 c2 hbox
       go_wp2_with (go_at_call 204;fail)
       refine (HF.out _ (HK.out.2.trans (Ux.Touch.refl (fun _=>False) wr).drew fun _ _ f=>f)).mono ?_
       rintro e5 w5 ⟨u,rfl,_,T5⟩
       have T5:=Lib.hid ((Ux.Touch.refl (fun _=>False) wr).drew.trans T5 fun _ _ f=>f)
       go_wp2_with (fail)
       refine ⟨HQ3.out _ T5.out,?_⟩
       repeat ((with_reducible refine Ux.qg ?_);refine Ux.qu ?_)
       cases b with
       |false=>
        go_wp2
        go_ret
        refine ⟨?_,HK.out.2.trans T5.out fun _ _ f=>f⟩
        rw [HNO.out e HX.out.2.1 (goodEnt_no1 (n:=k) (by have:=HX.out.2.2.2.2.1;omega) (by omega) HB.out.1)]
        rfl
       |true=>
        go_wp2
        go_roundg h'
        case measure=>omega
        case rel=>
         refine ⟨k+1,by congr 1,by omega,by omega,(HQ3.out _ T5.out).1,Lib.hid ⟨fun l h1 h2=> ?_,HK.out.2.trans T5.out fun _ _ f=>f⟩⟩
         by_cases hl:l=k
         ·subst hl;exact HB.out.1
         ·exact HK.out.1 l (by omega) h2
      ·obtain rfl:m1=k:=by omega
       clear hkn
       go_wp2
       go_roundg g'
       case measure=>omega
       case rel=>
        refine ⟨i+1,by congr 1,by omega,hbox,Lib.hid ⟨fun l d h1 h2=> ?_,HK.out.2⟩⟩
        by_cases hli:l=i
        ·subst hli
         have:d=e:=Option.some.inj (h2.symm.trans HX.out.1)
         subst this
         exact goodEnt_yes (fun j h1 h2=>HK.out.1 j (by have:=HX.out.2.2.2.2.1;omega) h2) HBW.out
        ·exact HI.out.1 l d (by omega) h2
  ·have q1: ¬(i:Int)<n:=by omega
   have hr0:R=0:=by
    rw [←HR.out,goodEnt_all fun j d hj hd=>HI.out.1 j d (by have:=HH.out.2.1;omega) hd]
    rfl
   subst hr0
   clear hlt
   go_wp2
   go_ret
   exact ⟨rfl,HI.out.2⟩
end Go.Proofs.YtmnkinaaoifpeaaGreatDoor
