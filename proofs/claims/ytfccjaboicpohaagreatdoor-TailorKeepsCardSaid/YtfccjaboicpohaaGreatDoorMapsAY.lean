/- A part of the proof that the statement holds for every input that it names. No other condition. -/
import Derived.Test.YtfccjaboicpohaaGreatDoorRefAY
import Derived.Test.YtfccjaboicpohaaGreatDoorUxEntAY
import Derived.Test.YtfccjaboicpohaaGreatDoorEntsAY
set_option linter.unusedVariables false
set_option linter.unusedSimpArgs false
namespace Go.Proofs.YtfccjaboicpohaaGreatDoor
open Go.RowKit
open Ux (eP eS eT eV)
set_option maxHeartbeats 8000000 in
set_option maxRecDepth 100000 in
theorem rok_ (x:Nat) (w:World):Calls Tryz.prog 70 #[.agg #[.int .i64 (eP x:Nat),.int .i64 (eS x:Nat),.int .i64 (eT x:Nat),.bool (eV x)]] w fun e w'=>e= .returned (.bool (okW x))∧Ux.Touch (fun _=>False) w w':=by
 unfold okW
 obtain ⟨p,hp⟩: ∃p,eP x=p:=⟨_,rfl⟩
 obtain ⟨s,hs⟩: ∃s,eS x=s:=⟨_,rfl⟩
 obtain ⟨t,ht⟩: ∃t,eT x=t:=⟨_,rfl⟩
 obtain ⟨v,hv⟩: ∃v,eV x=v:=⟨_,rfl⟩
 rw [hp,hs,ht,hv]
 clear hp hs ht hv
 have z: ∀n:Nat,n≠0→((n:Int)==0)=false:=fun n h=>by simpa using h
 have zz:((0:Nat):Int)=0:=rfl
 rcases Nat.eq_zero_or_pos p with rfl|hp<;>rcases Nat.eq_zero_or_pos s with rfl|hs<;>rcases Nat.eq_zero_or_pos t with rfl|ht
 all_goals
  (try have p1:=z p (by omega))
  (try have s1:=z s (by omega))
  (try have t1:=z t (by omega))
  clear z
  (try simp only [zz])
  go_enter Tryz.func70,Tryz.ntmps70
  cases v
  all_goals go_wp2
  all_goals go_ret
  all_goals refine ⟨congrArg (fun b=>Ending.returned (Value.bool b)) ?_,(Ux.Touch.refl _ w).alloc _⟩
  all_goals first|(simp [*];done)|(simp [*]<;>omega)
end Go.Proofs.YtfccjaboicpohaaGreatDoor
namespace Go.Proofs.YtfccjaboicpohaaGreatDoor
open Go.RowKit
open Ux (Ent sv findE eP eS eT eV)
theorem SView.cut {w:World} {a:Option Addr} {n c k:Nat} {s:List Nat} (h:SView w (.slice a n c) s) (hk:k≤s.length) (c':Nat):SView w (.slice a k c') (s.take k):=by
 obtain ⟨a',c2,e,h⟩:=h
 cases e
 refine ⟨a,c',by rw [List.length_take,Nat.min_eq_left hk],fun j x hx=> ?_⟩
 rw [List.getElem?_take] at hx
 split at hx
 ·exact h j x hx
 ·cases hx
theorem goodEnt_all {T:List Ent} (h: ∀(i:Nat) (e:Ent),i<T.length→T[i]? =some e→goodEnt T e=true):checkE T=true:=by
 refine List.all_eq_true.2 fun e he=> ?_
 obtain ⟨i,hi,rfl⟩:=List.mem_iff_getElem.1 he
 exact h i _ hi (List.getElem?_eq_getElem hi)
set_option maxHeartbeats 16000000 in
set_option maxRecDepth 100000 in
theorem rcheck_ (v:Value) (T:List Ent) (A:Nat→Prop) (w:World) (hT:RRows w A v T) (h1:T.length≤10000) (h8: ∀e∈T,e.2.length≤1000) (h3: ∀e∈T,1≤e.1.length∧e.1.length≤3):
 Calls Tryz.prog 24 #[.agg #[v]] w fun e w'=>e= .returned (.int .i64 (if checkE T then 0 else 3))∧Ux.Touch (fun _=>False) w w':=by
 have hTT:=hT
 obtain ⟨_,a,ca,rfl,_,hca⟩:=hT
 obtain ⟨n,hn⟩: ∃n,T.length=n:=⟨_,rfl⟩
 obtain ⟨R,hR⟩: ∃R:Int,(if checkE T then 0 else 3)=R:=⟨_,rfl⟩
 rw [hn] at h1 hTT⊢
 rw [hR]
 have n0:(n:Int)≤10000:=by omega
 have HH:=Lib.hid (And.intro hca (And.intro hn (And.intro h8 (And.intro h3 hTT))))
 have HR:=Lib.hid hR
 have HNO:Hid (∀e∈T,goodEnt T e=false→R=3):=Lib.hid fun e he h=>by rw [←hR,checkE_no he h];rfl
 clear hca hn hR h1 h8 h3 hTT
 go_enter Tryz.func24,Tryz.ntmps24
 go_wp2
 go_loopg [3] n (fun g s3 wr=> ∃i:Nat,s3= .int .i64 i∧i+g=n∧wr.cell? ⟨w.heap.size,0,none⟩=some (.slice a n ca)∧Hid ((∀(j:Nat) (e:Ent),j<i→T[j]? =some e→goodEnt T e=true)∧Ux.Touch (fun _=>False) w wr))
 case atStart=>exact ⟨0,rfl,by omega,by simp [Ux.cell_newg],Lib.hid ⟨fun j e h _=>absurd h (Nat.not_lt_zero _),(Ux.Touch.refl _ _).alloc _⟩⟩
 case round=>
  obtain ⟨i,rfl,hig,hbox,HI⟩:=hrel
  have i0:(0:Int)≤i:=by omega
  by_cases hlt:i<n
  ·obtain ⟨g',rfl⟩: ∃g',gk=g'+1:=⟨gk-1,by omega⟩
   have i1:(i:Int)<n:=by omega
   obtain ⟨e,he⟩: ∃x,T[i]? =some x:=⟨_,List.getElem?_eq_getElem (by have:=HH.out.2.1;omega)⟩
   obtain ⟨g0,o,x,y,rfl,c1,c2,hE⟩:=HH.out.1 i e he
   have hem:=List.mem_of_getElem? he
   have hcap:=hE.2.2.2
   have hs:=hE.1.1
   have hl:=hE.1.2
   obtain ⟨a1,k1,rfl,_⟩:=hE.1.1
   obtain ⟨a2,k2,rfl,_⟩:=hE.1.2
   obtain ⟨m1,hm1⟩: ∃m,e.1.length=m:=⟨_,rfl⟩
   obtain ⟨m2,hm2⟩: ∃m,e.2.length=m:=⟨_,rfl⟩
   have q1:=HH.out.2.2.1 e hem
   have q2:=HH.out.2.2.2.1 e hem
   rw [hm1] at c1 hcap hs q2
   rw [hm2] at c2 hl q1
   have hcap:m1≤k1:=hcap
   have m10:(1:Int)≤m1:=by omega
   have m13:(m1:Int)≤3:=by omega
   have m1k:(m1:Int)≤k1:=by omega
   have m20:(m2:Int)≤1000:=by omega
   have HX:=Lib.hid (And.intro he (And.intro hem (And.intro hs (And.intro hl (And.intro hm1 (And.intro hm2 (And.intro c1 c2)))))))
   have HQ:Hid (∀W,Ux.Touch (fun _=>False) w W→W.cell? ⟨g0,o+i*2,none⟩=some (.slice a1 m1 k1)∧W.cell? ⟨g0,o+i*2+1,none⟩=some (.slice a2 m2 k2)):=Lib.hid fun W T=>⟨T.cell c1 (fun f=>f),T.cell c2 (fun f=>f)⟩
   obtain ⟨c1,c2⟩:=HQ.out _ HI.out.2
   have hm11:1≤m1:=by omega
   clear he hem hs hl hm1 hm2 q1 q2 hE hcap hlt
   go_wp2_with (fail)
   go_loopg [4] m2 (fun g s4 wr=> ∃j:Nat,s4= .int .i64 j∧j+g=m2∧wr.cell? ⟨w.heap.size,0,none⟩=some (.slice (some ⟨g0,o,none⟩) n ca)∧Hid ((∀(l x:Nat),l<j→e.2[l]? =some x→badW x=false)∧Ux.Touch (fun _=>False) w wr))
   case atStart=>exact ⟨0,rfl,by omega,hbox,Lib.hid ⟨fun l x h _=>absurd h (Nat.not_lt_zero _),HI.out.2⟩⟩
   case round=>
    clear c1 c2 hbox
    obtain ⟨j,rfl,hjg,hbox,HJ⟩:=hrel
    have j0:(0:Int)≤j:=by omega
    obtain ⟨c1,c2⟩:=HQ.out _ HJ.out.2
    by_cases hj:j<m2
    ·obtain ⟨h',rfl⟩: ∃h',gk=h'+1:=⟨gk-1,by omega⟩
     have j1:(j:Int)<m2:=by omega
     obtain ⟨x,hx⟩: ∃x,e.2[j]? =some x:=⟨_,List.getElem?_eq_getElem (by have:=HX.out.2.2.2.2.2.1;omega)⟩
     obtain ⟨a',c',ee,hc⟩:=HX.out.2.2.2.1
     injection ee with e1 _ _
     subst e1
     obtain ⟨g2,o2,e2,d1,d2,d3,d4⟩:=hc j x hx
     subst e2
     have HQ2:=Lib.hid fun W (T:Ux.Touch (fun _=>False) w W)=>And.intro (T.cell d1 (fun f=>f)) (And.intro (T.cell d2 (fun f=>f)) (And.intro (T.cell d3 (fun f=>f)) (T.cell d4 (fun f=>f))))
     obtain ⟨d1,d2,d3,d4⟩:=HQ2.out _ HJ.out.2
     obtain ⟨b,hb⟩: ∃b,okW x=b:=⟨_,rfl⟩
     have hk:=rok_ x wr
     rw [hb] at hk
     obtain ⟨pp,hpp⟩: ∃pp,eP x=pp:=⟨_,rfl⟩
     rw [hpp] at hk d1 HQ2
     have HK:=Lib.hid hk
     have HB:=Lib.hid (And.intro hb (And.intro hx hpp))
     clear hk hb hx hpp hc hj
     go_wp2_with (go_at_call 70;fail)
     refine HK.out.mono ?_
     rintro e4 w4 ⟨rfl,T4⟩
     have T04:=HJ.out.2.trans T4 fun _ _ f=>f
     obtain ⟨k1',k2'⟩:=HQ.out _ T04
     obtain ⟨k3',_,_,_⟩:=HQ2.out _ T04
     have hbox4:=T4.cell hbox (fun f=>f)
     have H4:=Lib.hid T04
     clear c1 c2 d1 d2 d3 d4 hbox T4 T04
     cases b with
     |false=>
      go_wp2
      go_ret
      refine ⟨?_,H4.out⟩
      rw [HNO.out e HX.out.2.1 (goodEnt_no2 (List.any_eq_true.2 ⟨x,List.mem_of_getElem? HB.out.2.1,by unfold badW;rw [HB.out.1];rfl⟩))]
      rfl
     |true=>
      by_cases h64:64256≤pp
      ·have p1:(64256:Int)≤pp:=by omega
       have HP:=Lib.hid h64
       clear h64
       go_wp2
       go_ret
       refine ⟨?_,H4.out⟩
       rw [HNO.out e HX.out.2.1 (goodEnt_no2 (List.any_eq_true.2 ⟨x,List.mem_of_getElem? HB.out.2.1,by unfold badW;rw [HB.out.2.2,decide_eq_true HP.out,Bool.or_true]⟩))]
       rfl
      ·have p1:decide ((64256:Int)≤pp)=false:=decide_eq_false (by omega)
       have p2:decide (64256≤pp)=false:=decide_eq_false h64
       have HP:=Lib.hid h64
       clear h64
       go_wp2
       go_roundg h'
       case measure=>omega
       case rel=>
        refine ⟨j+1,by congr 1,by omega,hbox4,Lib.hid ⟨fun l z h1 h2=> ?_,H4.out⟩⟩
        by_cases hlj:l=j
        ·subst hlj
         have:z=x:=Option.some.inj (h2.symm.trans HB.out.2.1)
         subst this
         unfold badW
         rw [HB.out.1,HB.out.2.2,decide_eq_false HP.out]
         rfl
        ·exact HJ.out.1 l z (by omega) h2
    ·obtain rfl:m2=j:=by omega
     clear hj
     have HBW:Hid (e.2.any badW=false):=Lib.hid (List.any_eq_false.2 fun x hx=>by
      obtain ⟨l,hl,rfl⟩:=List.mem_iff_getElem.1 hx
      rw [HJ.out.1 l _ (by have:=HX.out.2.2.2.2.2.1;omega) (List.getElem?_eq_getElem hl)]
      simp)
     go_wp2_with (fail)
     go_loopg [5] (m1-1) (fun g s5 wr=> ∃k:Nat,s5= .int .i64 k∧1≤k∧k+g=m1∧wr.cell? ⟨w.heap.size,0,none⟩=some (.slice (some ⟨g0,o,none⟩) n ca)∧Hid ((∀l,l<k→l≠0→(findE T (e.1.take l)).isSome=true)∧Ux.Touch (fun _=>False) w wr))
     case atStart=>exact ⟨1,rfl,Nat.le_refl _,by omega,hbox,Lib.hid ⟨fun l h1 h2=>absurd h1 (by omega),HJ.out.2⟩⟩
     case round=>
      clear c1 c2 hbox
      obtain ⟨k,rfl,hk1,hkg,hbox,HK⟩:=hrel
      have k0:(1:Int)≤k:=by omega
      obtain ⟨c1,c2⟩:=HQ.out _ HK.out.2
      by_cases hkn:k<m1
      ·obtain ⟨h',rfl⟩: ∃h',gk=h'+1:=⟨gk-1,by omega⟩
       have kn:(k:Int)<m1:=by omega
       have hkl:k≤e.1.length:=by have:=HX.out.2.2.2.2.1;omega
       have HF:=Lib.hid fun W (T1:Ux.Touch (fun _=>False) w W)=>rfind_ (.slice (some ⟨g0,o,none⟩) n ca) (.slice a1 k k1) T (sv (e.1.take k)) A W (HH.out.2.2.2.2.touch0 T1) ((SView.cut HX.out.2.2.1 hkl k1).touch0 T1).i (by have:=HH.out.2.1;omega) (by rw [Ux.sv_length,List.length_take];omega) (fun d hd=>by have:=HH.out.2.2.2.1 d hd;omega)
       rw [findI_sv] at HF
       obtain ⟨b,hb⟩: ∃b,(findE T (e.1.take k)).isSome=b:=⟨_,rfl⟩
       rw [hb] at HF
       have HB:=Lib.hid (And.intro hb hkl)
       clear hb hkl hkn
       have HQ3:=Lib.hid fun W (T1:Ux.Touch (fun _=>False) wr W)=>And.intro (T1.cell hbox (fun f=>f)) (T1.cell c1 (fun f=>f))
       go_upto_region 12 with (fail)
       refine Ux.wpr (fun _ w'=>w'.cell? ⟨w.heap.size,0,none⟩=some (.slice (some ⟨g0,o,none⟩) n ca)∧w'.cell? ⟨g0,o+i*2,none⟩=some (.slice a1 m1 k1)) (.h false [0] (.q [1,3,7] (.h false [2] (.q [4,5] (.h false [6] (.q [8] (.e 9 true false (.q [10,11,12,13] (.line [14]))))))))) ?_;repeat ((with_reducible refine Ux.qg ?_);refine Ux.qu ?_)
       clear c1 c2 hbox
       go_wp2_with (go_at_call 22;fail)
       refine (HF.out _ (HK.out.2.trans (Ux.Touch.refl (fun _=>False) wr).drew fun _ _ f=>f)).mono ?_
       rintro e5 w5 ⟨u,rfl,_,T5⟩
       have T5:=Lib.hid ((Ux.Touch.refl (fun _=>False) wr).drew.trans T5 fun _ _ f=>f)
       go_wp2_with (fail)
       refine ⟨HQ3.out _ T5.out,?_⟩
       repeat ((with_reducible refine Ux.qg ?_);refine Ux.qu ?_)
       cases b with
       |false=>
        go_wp2
        go_ret
        refine ⟨?_,HK.out.2.trans T5.out fun _ _ f=>f⟩
        rw [HNO.out e HX.out.2.1 (goodEnt_no1 (n:=k) (by have:=HX.out.2.2.2.2.1;omega) (by omega) HB.out.1)]
        rfl
       |true=>
        go_wp2
        go_roundg h'
        case measure=>omega
        case rel=>
         refine ⟨k+1,by congr 1,by omega,by omega,(HQ3.out _ T5.out).1,Lib.hid ⟨fun l h1 h2=> ?_,HK.out.2.trans T5.out fun _ _ f=>f⟩⟩
         by_cases hl:l=k
         ·subst hl;exact HB.out.1
         ·exact HK.out.1 l (by omega) h2
      ·obtain rfl:m1=k:=by omega
       clear hkn
       go_wp2
       go_roundg g'
       case measure=>omega
       case rel=>
        refine ⟨i+1,by congr 1,by omega,hbox,Lib.hid ⟨fun l d h1 h2=> ?_,HK.out.2⟩⟩
        by_cases hli:l=i
        ·subst hli
         have:d=e:=Option.some.inj (h2.symm.trans HX.out.1)
         subst this
         exact goodEnt_yes (fun j h1 h2=>HK.out.1 j (by have:=HX.out.2.2.2.2.1;omega) h2) HBW.out
        ·exact HI.out.1 l d (by omega) h2
  ·have q1: ¬(i:Int)<n:=by omega
   have hr0:R=0:=by
    rw [←HR.out,goodEnt_all fun j d hj hd=>HI.out.1 j d (by have:=HH.out.2.1;omega) hd]
    rfl
   subst hr0
   clear hlt
   go_wp2
   go_ret
   exact ⟨rfl,HI.out.2⟩
end Go.Proofs.YtfccjaboicpohaaGreatDoor
namespace Go.Proofs.YtfccjaboicpohaaGreatDoor
open Go.RowKit
open Ux (Row iv sv Ent k3 kl3 okS okE ev okT EArr EP TabA mapE blkOf)
open Ux.Sign (cp raw)
def turnP (F:Nat→Nat) (p:EP):Ent:=(p.2.2.1,p.2.2.2.map F)
theorem ev_step {F:Nat→Nat} {l:List Nat} {j x:Nat} (h:l[j]? =some x):(ev ((l.take j).map F++l.drop j)).set j (.int .u32 (F x:Nat))=ev ((l.take (j+1)).map F++l.drop (j+1)):=by
 have hj:j<l.length:=(List.getElem?_eq_some_iff.1 h).1
 have e1:l.drop j=x::l.drop (j+1):=Ux.drop_get h
 rw [e1,List.take_add_one,h]
 unfold ev
 rw [List.map_append,List.map_append,List.set_append_right _ _ (by simp;omega)]
 simp only [List.length_map,List.length_take,Nat.min_eq_left (Nat.le_of_lt hj),Nat.sub_self,List.map_cons,List.set_cons_zero,Option.toList_some,List.map_append,List.map_nil,List.append_assoc,List.cons_append,List.nil_append]
set_option maxHeartbeats 16000000 in
set_option maxRecDepth 100000 in
theorem tmap_ (B mb:Nat) (E:List Ent) (g:Nat) (lb:Array Value) (F:Nat→Nat) (hF: ∀x,x<4294967296→F x<4294967296) (w:World) (hT:TableAt w B mb E) (hsig: ∀e∈E,∀c∈e.1,cp c∨raw c) (hE:E.length≤1000)
 (eg: ∀args w,(callFunc g args).run Tryz.prog w= .ok (.enter g args) w)
 (hf: ∀W,Ux.Touch (fun b=>w.heap.size≤b) w W→∀x,x<4294967296→Calls Tryz.prog g (#[.int .u32 (x:Int)]++lb) W fun e w'=>e= .returned (.int .u32 (F x:Nat))∧Ux.Touch (fun _=>False) W w'):
 Calls Tryz.prog 155 #[.pointer (some ⟨B,0,none⟩),.func (.func g) #[] lb] w fun e w'=> ∃B' mb',e= .returned (.pointer (some ⟨B',0,none⟩))∧TableAt w' B' mb' (mapE F E)∧Ux.Touch (fun _=>False) w w':=by
 have hok:=hT.1.1
 have HF:=Lib.hid (And.intro hf hF)
 have HT:=Lib.hid (And.intro hT (And.intro hsig (And.intro hE hok)))
 clear hf hF hT hsig hE hok
 obtain ⟨q,hq⟩: ∃q,w.heap.size=q:=⟨_,rfl⟩
 have T01:Ux.Touch (fun _=>False) w (w.alloc (.map #[] 0)):=(Ux.Touch.refl _ _).alloc _
 have HEN:=Lib.hid (entries_ B mb E (w.alloc (.map #[] 0)) (HT.out.1.touch0 T01) HT.out.2.2.1)
 have hTM:=TabA.made w Tryz.prog 105 56 (fun _=>False)
 rw [hq] at hTM
 have H0:=Lib.hid (And.intro T01 (And.intro hTM hq))
 clear T01 hTM
 have hmm:= @run_makeMap Tryz.prog
 go_enter Tryz.func155,Tryz.ntmps155
 go_wp2_with (go_at_call 57;fail)
 refine HEN.out.mono ?_
 rintro e w2 ⟨u,P,rfl,hEA,hP,hso,T2⟩
 obtain ⟨hE1,a2,rfl,hE2,hE3⟩:=hEA
 obtain ⟨n,hn⟩: ∃n,P.length=n:=⟨_,rfl⟩
 rw [hn] at hE3⊢
 have n0:(n:Int)≤1000:=by have:=hP.length_eq;have h:=HT.out.2.2.1;rw [List.length_map] at*;omega
 have hq2:q+1≤w2.heap.size:=by have:=T2.size;rw [World.size_alloc] at this;omega
 have HX:=Lib.hid (And.intro hE1 (And.intro hE2 (And.intro hE3 (And.intro hn (And.intro hP (And.intro T2 hq2))))))
 clear hE1 hE2 hE3 hn hP hso T2 hq2 HEN
 go_wp2_with (fail)
 clear hmm
 go_loopg [16] n (fun g s16 wr=> ∃i:Nat,s16= .int .i64 i∧i+g=n∧Hid (TabA Tryz.prog 105 56 wr q ((P.take i).map (turnP F)) (fun b=> ∃p∈P.take i,p.2.1.ownBlock=some b)∧Ux.Touch (fun b=>b=q∨∃p∈P.take i,p.2.1.ownBlock=some b) w2 wr))
 case atStart=>exact ⟨0,rfl,by omega,Lib.hid ⟨((H0.out.2.1.touch HX.out.2.2.2.2.2.1 (fun f=>f) (fun _ f=>f.elim)).mono fun _ f=>f.elim),Ux.Touch.refl _ _⟩⟩
 case round=>
  obtain ⟨i,rfl,hig,HI⟩:=hrel
  have i0:(0:Int)≤i:=by omega
  by_cases hlt:i<n
  ·obtain ⟨g',rfl⟩: ∃g',gk=g'+1:=⟨gk-1,by omega⟩
   have i1:(i:Int)<n:=by omega
   obtain ⟨p,hp⟩: ∃p,P[i]? =some p:=⟨_,List.getElem?_eq_getElem (by have:=HX.out.2.2.2.1;omega)⟩
   have hpm:=List.mem_of_getElem? hp
   obtain ⟨ga,rfl,hga,c1,c2⟩:=HX.out.2.1 i p hp
   obtain ⟨r1,r2,r3⟩:=HX.out.1.1 p hpm
   have hpw:=HX.out.1.2
   have hoks:=HT.out.2.2.2.2 p.2.2 (HX.out.2.2.2.2.1.mem_iff.2 (List.mem_map.2 ⟨p,hpm,rfl⟩))
   have hcs:=HT.out.2.1 p.2.2 (HX.out.2.2.2.2.1.mem_iff.2 (List.mem_map.2 ⟨p,hpm,rfl⟩))
   have hsize:=H0.out.1.size
   have hfree: ∀b,blkOf p b→¬(b=q∨∃d∈P.take i,d.2.1.ownBlock=some b):=fun b hb h=>by
    rcases h with h|⟨d,hd,h⟩
    ·have h1:=(HX.out.1.lt hpm hb).1
     rw [World.size_alloc] at h1
     have:=H0.out.2.2
     omega
    ·obtain ⟨j,hj,hdj⟩:=List.mem_iff_getElem.1 hd
     have hj2:j<i:=by have:=List.length_take_le i P;omega
     have hjP:j<P.length:=by have:=HX.out.2.2.2.1;omega
     have h1:=List.pairwise_iff_getElem.1 hpw j i hjP (by have:=HX.out.2.2.2.1;omega) hj2 b
     have hdj2:P[j]=d:=by rw [←hdj,List.getElem_take]
     have hpi:P[i]'(by have:=HX.out.2.2.2.1;omega)=p:=by
      have:=List.getElem?_eq_some_iff.1 hp
      exact this.2
     rw [hdj2,hpi] at h1
     exact h1 (.inr h) hb
   have hgfree: ¬(ga=q∨∃d∈P.take i,d.2.1.ownBlock=some ga):=fun h=>by
    rcases h with h|⟨d,hd,h⟩
    ·rw [World.size_alloc] at hga
     have:=H0.out.2.2
     omega
    ·exact HX.out.2.2.1 d (List.mem_of_mem_take hd) ga (.inr h) rfl
   have c1:=HI.out.2.cell c1 hgfree
   have c2:=HI.out.2.cell c2 hgfree
   have r1:=r1.touch HI.out.2 fun b _ hb=>hfree b (.inl hb)
   have r2:=r2.touch HI.out.2 fun b _ hb=>hfree b (.inr hb)
   have HP:=Lib.hid (And.intro hp (And.intro hpm (And.intro hoks (And.intro hcs (And.intro hfree (And.intro r3 (And.intro r1 r2)))))))
   obtain ⟨a1,m1,k1,e1⟩:=r1.lit
   obtain ⟨b2,m2,k2,e2⟩:=r2.lit
   have hm2:m2=p.2.2.2.length:=by
    obtain ⟨_,_,h,_⟩:=r2.is
    rw [e2] at h
    cases h
    rw [Ux.ev_length]
   rw [e1] at c1
   rw [e2] at c2
   have HE:=Lib.hid (And.intro e1 (And.intro e2 hm2))
   have m8:(m2:Int)≤8:=by have:=hoks.2.1;omega
   clear hp hpm hoks hcs hfree r3 r1 r2 e1 e2 hm2 hlt hpw hga hgfree hsize
   go_upto_region 6 with (fail)
   obtain ⟨X,hX⟩: ∃X,wr.heap.size=X:=⟨_,rfl⟩
   have tA:Ux.Touch (fun _=>False) wr (wr.alloc (Obj.cells #[Value.slice a1 m1 k1,Value.slice b2 m2 k2] 131)):=(Ux.Touch.refl _ _).alloc _
   have x0:(wr.alloc (Obj.cells #[Value.slice a1 m1 k1,Value.slice b2 m2 k2] 131)).cell? ⟨X,0,none⟩=some (.slice a1 m1 k1):=by rw [←hX,Ux.cell_newg];rfl
   have x1:(wr.alloc (Obj.cells #[Value.slice a1 m1 k1,Value.slice b2 m2 k2] 131)).cell? ⟨X,1,none⟩=some (.slice b2 m2 k2):=by rw [←hX,Ux.cell_newg];rfl
   have hr2:Row (wr.alloc (Obj.cells #[Value.slice a1 m1 k1,Value.slice b2 m2 k2] 131)) (w.alloc (.map #[] 0)).heap.size 56 (.slice b2 m2 k2) (ev p.2.2.2):=by
    have h:=HP.out.2.2.2.2.2.2.2.touch0 tA
    rw [HE.out.2.1] at h
    exact h
   have HA:=Lib.hid (And.intro tA (And.intro x0 (And.intro x1 (And.intro hr2 hX))))
   rw [hX]
   generalize wr.alloc (Obj.cells #[Value.slice a1 m1 k1,Value.slice b2 m2 k2] 131)=W3 at HA⊢
   clear tA x0 x1 hr2 c1 c2 hX
   go_loopg [23] m2 (fun g s23 wk=> ∃j:Nat,s23= .int .i64 j∧j+g=m2∧Hid (Row wk (w.alloc (.map #[] 0)).heap.size 56 (.slice b2 m2 k2) (ev ((p.2.2.2.take j).map F++p.2.2.2.drop j))∧Ux.Touch (fun b=>(Value.slice b2 m2 k2).ownBlock=some b) W3 wk))
   case atStart=>exact ⟨0,rfl,by omega,Lib.hid ⟨HA.out.2.2.2.1,Ux.Touch.refl _ _⟩⟩
   case round=>
    obtain ⟨j,rfl,hjg,HJ⟩:=hrel
    have j0:(0:Int)≤j:=by omega
    by_cases hj:j<m2
    ·obtain ⟨h',rfl⟩: ∃h',gk=h'+1:=⟨gk-1,by omega⟩
     have j1:(j:Int)<m2:=by omega
     obtain ⟨y,hy⟩: ∃y,p.2.2.2[j]? =some y:=⟨_,List.getElem?_eq_getElem (by have:=HE.out.2.2;omega)⟩
     have hyl:=HP.out.2.2.1.2.2 y (List.mem_of_getElem? hy)
     have hev:(ev ((p.2.2.2.take j).map F++p.2.2.2.drop j))[j]? =some (.int .u32 (y:Int)):=by
      refine Ux.ev_get ?_
      rw [List.getElem?_append_right (by simp;omega)]
      simp only [List.length_map,List.length_take]
      rw [Nat.min_eq_left (by have:=HE.out.2.2;omega),Nat.sub_self,List.getElem?_drop,Nat.add_zero]
      exact hy
     obtain ⟨gl,hgl,hgl2,d1⟩:=HJ.out.1.at hev
     subst hgl
     have hfz:=HJ.out.1.frozen j
     have hXl: ¬(Value.slice (some ⟨gl,0,none⟩) m2 k2).ownBlock=some X:=by
      intro h
      have h1:=HP.out.2.2.2.2.2.2.2.blk (b:=X) (by rw [HE.out.2.1];exact h)
      have:=HA.out.2.2.2.2
      omega
     have x1:=HJ.out.2.cell HA.out.2.2.1 hXl
     have x0:=HJ.out.2.cell HA.out.2.1 hXl
     have HQ:=Lib.hid fun W (T:Ux.Touch (fun _=>False) wr W)=>And.intro (T.cell x1 (fun f=>f)) (And.intro (T.cell d1 (fun f=>f)) (HJ.out.1.touch0 T))
     have hTW:Ux.Touch (fun b=>w.heap.size≤b) w wr:=by
      have h1:=(H0.out.1.mono (R':=fun b=>w.heap.size≤b) fun _ _ f=>f.elim).trans (HX.out.2.2.2.2.2.1.mono (R':=fun b=>w.heap.size≤b) fun _ _ f=>f.elim) fun _ _ h=>h
      have h2:=h1.trans (HI.out.2.mono (R':=fun b=>w.heap.size≤b) fun b _ h=>by
       rcases h with h|⟨d,hd,h⟩
       ·have:=H0.out.2.2;omega
       ·have:=(HX.out.1.lt (List.mem_of_mem_take hd) (.inr h)).1
        rw [World.size_alloc] at this
        omega) fun _ _ h=>h
      have h3:=h2.trans (HA.out.1.mono (R':=fun b=>w.heap.size≤b) fun _ _ f=>f.elim) fun _ _ h=>h
      exact h3.trans (HJ.out.2.mono (R':=fun b=>w.heap.size≤b) fun b _ h=>by
       have hb:gl=b:=Option.some.inj h
       rw [World.size_alloc] at hgl2
       omega) fun _ _ h=>h
     have HFc:=Lib.hid fun W (T:Ux.Touch (fun _=>False) wr W)=>HF.out.1 W (hTW.trans (T.mono (R':=fun b=>w.heap.size≤b) fun _ _ f=>f.elim) fun _ _ h=>h) y hyl
     have HY:=Lib.hid hy
     clear hy hyl hev hgl2 hXl hTW hj x0
     go_upto_region 8 with (fail)
     refine Ux.wpr (fun _ w'=>w'.cell? ⟨X,1,none⟩=some (.slice (some ⟨gl,0,none⟩) m2 k2)) (.q [0,2,3,4] (.h false [1] (.e 5 true false (.line [6,7])))) ?_;repeat ((with_reducible refine Ux.qg ?_);refine Ux.qu ?_)
     clear x1 d1
     go_wp2_with (first|(go_at_fn g;fail)|fail)
     refine (HFc.out _ (Ux.Touch.refl _ wr).drew).mono ?_
     rintro e w9 ⟨rfl,T9⟩
     have T9:=(Ux.Touch.refl (fun _=>False) wr).drew.trans T9 fun _ _ f=>f
     have hq9:=HQ.out w9 T9
     have hfz9:=hq9.2.2.frozen j
     have d9:=hq9.2.1
     have x9:=hq9.1
     have H9:=Lib.hid (And.intro T9 hq9)
     clear T9 hq9
     go_wp2_with (fail)
     refine ⟨x9,?_⟩
     go_wp2_with (fail)
     go_roundg h'
     case measure=>omega
     case rel=>
      refine ⟨j+1,rfl,by omega,Lib.hid ⟨?_,?_⟩⟩
      ·have h:=H9.out.2.2.2.set j (.int .u32 (F y:Nat))
       rw [ev_step HY.out] at h
       exact h
      ·exact (HJ.out.2.trans (H9.out.1.mono (R':=fun b=>(Value.slice (some ⟨gl,0,none⟩) m2 k2).ownBlock=some b) fun _ _ f=>f.elim) fun _ _ h=>h).setCell (p:=⟨gl,j,none⟩) (fun _=>rfl) _
    ·obtain rfl:m2=j:=by omega
     have hrow:=HJ.out.1
     rw [List.take_of_length_le (by have:=HE.out.2.2;omega),List.drop_eq_nil_of_le (by have:=HE.out.2.2;omega),List.append_nil] at hrow
     have hXl: ∀b,(Value.slice b2 m2 k2).ownBlock=some b→blkOf p b∧b<X:=fun b h=>by
      have h1:p.2.1.ownBlock=some b:=by rw [HE.out.2.1];exact h
      have h2:=HP.out.2.2.2.2.2.2.2.blk h1
      have:=HA.out.2.2.2.2
      exact ⟨.inr h1,by omega⟩
     have x0:=HJ.out.2.cell HA.out.2.1 (fun h=>by have:=(hXl X h).2;omega)
     have x1:=HJ.out.2.cell HA.out.2.2.1 (fun h=>by have:=(hXl X h).2;omega)
     have hTQ:=(HI.out.1.touch HA.out.1 (fun f=>f) (fun _ _ f=>f)).touch HJ.out.2 (fun h=>HP.out.2.2.2.2.1 q (hXl q h).1 (.inl rfl)) (fun b hb h=>HP.out.2.2.2.2.1 b (hXl b h).1 (.inr hb))
     have hsk: ∀b,p.1.ownBlock=some b→¬(Value.slice b2 m2 k2).ownBlock=some b:=fun b h1 h2=>HP.out.2.2.2.2.2.1 b h1 (by rw [HE.out.2.1];exact h2)
     have hr1:=(HP.out.2.2.2.2.2.2.1.touch0 HA.out.1).touch HJ.out.2 fun b _ h=>hsk b h
     rw [HE.out.1] at hr1
     obtain ⟨x,y,z,hxyz⟩:=k3_is HP.out.2.2.1.1
     have HK:=Lib.hid (key3_ p.2.2.1 HP.out.2.2.1.1 HP.out.2.2.2.1 _ wr (IView.row hr1).s x y z hxyz)
     have HQ:=Lib.hid fun W (T:Ux.Touch (fun _=>False) wr W)=>And.intro (T.cell x1 (fun f=>f)) (And.intro (hTQ.touch T (fun f=>f) (fun _ _ f=>f)) (hrow.touch0 T))
     have hkey:=keyS HP.out.2.2.1.1
     rw [hxyz] at hkey
     have HKY:=Lib.hid hkey
     clear hrow hXl hTQ hsk hr1 hxyz hkey hj
     go_wp2_with (go_at_call 61;fail)
     refine HK.out.mono ?_
     rintro e w4 ⟨rfl,T4⟩
     have hq4:=HQ.out w4 T4
     obtain ⟨q4,hq4s⟩: ∃q4,w4.heap.size=q4:=⟨_,rfl⟩
     have T5:Ux.Touch (fun _=>False) w4 (w4.alloc (.cells #[.int .i64 x,.int .i64 y,.int .i64 z] 105)):=(Ux.Touch.refl _ _).alloc _
     have y1:=T5.cell hq4.1 (fun f=>f)
     obtain ⟨h0,fm,hM,hTl,hA⟩:=hq4.2.1.touch T5 (fun f=>f) (fun _ _ f=>f)
     have hr5:=hq4.2.2.touch0 T5
     have H5:=Lib.hid (And.intro h0 (And.intro hM (And.intro hTl (And.intro hA (And.intro hr5 (T4.trans T5 fun _ _ f=>f))))))
     clear h0 hM hTl hA hr5 hq4 T4
     have hPn:P.length≤1000:=by have:=HX.out.2.2.2.1;omega
     go_wp2_with (at_mapUpdate;refine Ux.wpList_put (key:= .agg #[.int .i64 x,.int .i64 y,.int .i64 z]) (val:= .slice b2 m2 k2) rfl _ _ _ 103 rfl rfl rfl rfl H5.out.2.1 keyedS Tryz.underlying103 (by have h1:=List.length_take_le i P;rw [List.length_map];unfold maxLen;omega) HKY.out ?_;intro w6 hm6 ht6;have H6:=Lib.hid (And.intro hm6 ht6);clear hm6 ht6)
     go_roundg g'
     case measure=>omega
     case rel=>
      have e1:P.take (i+1)=P.take i++ [p]:=by rw [List.take_add_one,HP.out.1];rfl
      have e2:(P.take (i+1)).map (turnP F)=(P.take i).map (turnP F)++ [(p.2.2.1,p.2.2.2.map F)]:=by rw [e1,List.map_append];rfl
      have hin: ∀b,(∃d∈P.take i,d.2.1.ownBlock=some b)→∃d∈P.take (i+1),d.2.1.ownBlock=some b:=fun b ⟨d,h1,h2⟩=>⟨d,by rw [e1];exact List.mem_append_left _ h1,h2⟩
      have hself: ∀b,(Value.slice b2 m2 k2).ownBlock=some b→∃d∈P.take (i+1),d.2.1.ownBlock=some b:=fun b h=>⟨p,by rw [e1];exact List.mem_append_right _ (List.mem_singleton.2 rfl),by rw [HE.out.2.1];exact h⟩
      refine ⟨i+1,rfl,by omega,Lib.hid ⟨?_,?_⟩⟩
      ·rw [e2]
       have hok:=HP.out.2.2.1
       refine Ux.TabA.put H5.out.1 H5.out.2.1 H5.out.2.2.1 (fun kl v g h1 h2=>hin g (H5.out.2.2.2.1 kl v g h1 h2)) ⟨hok.1,by rw [List.length_map];exact hok.2.1,fun c hc=> ?_⟩ ?_ (H5.out.2.2.2.2.1.mono (Nat.zero_le _)) hself H6.out.1 H6.out.2
       ·obtain ⟨d,hd,rfl⟩:=List.mem_map.1 hc
        exact HF.out.2 d (hok.2.2 d hd)
       ·have hnd:(P.map (·.2.2.1)).Nodup:=by
         have h1:=(HX.out.2.2.2.2.1.map (·.1)).nodup_iff.1 HT.out.2.2.2.1
         rw [List.map_map] at h1
         exact h1
        rw [List.map_map]
        have h2:(P.take (i+1)).map (·.2.2.1)=(P.take i).map (·.2.2.1)++ [p.2.2.1]:=by rw [e1,List.map_append];rfl
        have h3:((P.take (i+1)).map (·.2.2.1)).Nodup:=by rw [List.map_take];exact hnd.sublist (List.take_sublist _ _)
        rw [h2,List.nodup_append] at h3
        exact fun h=>h3.2.2 _ h _ (List.mem_singleton.2 rfl) rfl
      ·have t1:=HI.out.2.mono (R':=fun b=>b=q∨∃d∈P.take (i+1),d.2.1.ownBlock=some b) fun b _ h=>h.imp id (hin b)
       have t2:=t1.trans (HA.out.1.mono (R':=fun b=>b=q∨∃d∈P.take (i+1),d.2.1.ownBlock=some b) fun _ _ f=>f.elim) fun _ _ h=>h
       have t3:=t2.trans (HJ.out.2.mono (R':=fun b=>b=q∨∃d∈P.take (i+1),d.2.1.ownBlock=some b) fun b _ h=> .inr (hself b h)) fun _ _ h=>h
       have t4:=t3.trans (H5.out.2.2.2.2.2.mono (R':=fun b=>b=q∨∃d∈P.take (i+1),d.2.1.ownBlock=some b) fun _ _ f=>f.elim) fun _ _ h=>h
       exact t4.trans (H6.out.2.mono (R':=fun b=>b=q∨∃d∈P.take (i+1),d.2.1.ownBlock=some b) fun b _ h=> .inl h) fun _ _ h=>h
  ·obtain rfl:n=i:=by omega
   have T0:=(H0.out.1.trans HX.out.2.2.2.2.2.1 fun _ _ f=>f).trans HI.out.2 fun b hb h=>by
    rcases h with h|⟨d,hd,h⟩
    ·have:=H0.out.2.2;omega
    ·have:=(HX.out.1.lt (List.mem_of_mem_take hd) (.inr h)).1
     rw [World.size_alloc] at this
     omega
   obtain ⟨hT1,t,ks,f,hT2,hT3,hT4⟩:=HT.out.1.touch0 T0
   have hTB:wr.cell? ⟨B,1,none⟩=some (.pointer (some ⟨t,0,none⟩)):=by
    rw [cell_of_row wr B 1 _ _ (0,0) hT2]
    rfl
   have H9:=Lib.hid (And.intro T0 (And.intro hT3 hT4))
   clear T0 hT1 hT2 hT3 hT4 hlt
   go_wp2_with (fail)
   go_ret
   have T1:Ux.Touch (fun _=>False) wr (wr.alloc (.cells #[.map (some q),.pointer (some ⟨t,0,none⟩)] 141)):=(Ux.Touch.refl _ _).alloc _
   refine ⟨_,q,rfl,⟨?_,t,ks,f,heap_alloc_new wr _,H9.out.2.1.touch0 T1,H9.out.2.2.mapE F⟩,H9.out.1.trans T1 fun _ _ f=>f⟩
   have h:=HI.out.1.tab.touch0 T1
   rw [List.take_of_length_le (by have:=HX.out.2.2.2.1;omega)] at h
   refine Ux.TabMap.perm h ?_
   have e:P.map (turnP F)=mapE F (P.map (·.2.2)):=by unfold mapE;rw [List.map_map];rfl
   rw [e]
   exact (Ux.mapE_perm F HX.out.2.2.2.2.1).symm
end Go.Proofs.YtfccjaboicpohaaGreatDoor
