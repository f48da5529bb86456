/- A part of the proof that the statement holds for every input that it names. No other condition. -/
import Derived.Test.YtikmdhhbamggfaaGreatDoorRefAZ
set_option linter.unusedVariables false
set_option linter.unusedSimpArgs false
namespace Go.Proofs.YtikmdhhbamggfaaGreatDoor
open Go.RowKit
open Ux (Ent sv iv findE implE longE atE)
open Ux.Sign (cp raw)
theorem SView.sub {w:World} {g o n c:Nat} {s:List Nat} (h:SView w (.slice (some ⟨g,o,none⟩) n c) s) (i m:Nat) (hm:i+m≤s.length) (c':Nat):SView w (.slice (some ⟨g,o+i,none⟩) m c') ((s.drop i).take m):=by
 obtain ⟨a,k,e,hc⟩:=h
 cases e
 refine ⟨_,c',by rw [List.length_take,List.length_drop,Nat.min_eq_left (by omega)],fun j x hj=>⟨g,o+i,rfl,?_⟩⟩
 have:s[i+j]? =some x:=by
  rw [List.getElem?_take] at hj
  split at hj
  ·rw [List.getElem?_drop] at hj
   exact hj
  ·cases hj
 obtain ⟨g',o',e,h1⟩:=hc _ _ this
 cases e
 rw [Nat.add_assoc]
 exact h1
set_option maxHeartbeats 8000000 in
set_option maxRecDepth 100000 in
theorem rat_ (v vs:Value) (T:List Ent) (s:List Nat) (A:Nat→Prop) (i:Nat) (w:World) (hT:RRows w A v T) (hs:SView w vs s) (hcap:capOk vs) (hcs: ∀c∈s,cp c∨raw c) (h1:T.length≤1000000) (h2:s.length≤1000000000) (h3: ∀e∈T,e.1.length≤1000000000) (hi:i<s.length):
 Calls Tryz.prog 148 #[.agg #[v],vs,.int .i64 i] w fun e w'=> ∃u,e= .returned (.tuple #[u,.int .i64 ((atE T s i).2:Nat)])∧RRow w' u (atE T s i).1∧Ux.Touch (fun _=>False) w w':=by
 obtain ⟨c,hc⟩: ∃c,s[i]? =some c:=⟨_,List.getElem?_eq_getElem hi⟩
 have hss:=hs
 have hTT:=hT
 obtain ⟨_,a,ca,rfl,_,_⟩:=hT
 obtain ⟨a1,c1,rfl,hc1⟩:=hs
 obtain ⟨g,o,rfl,hci⟩:=hc1 i c hc
 have hcap:s.length≤c1:=hcap
 obtain ⟨n,hn⟩: ∃n,s.length=n:=⟨_,rfl⟩
 obtain ⟨N,hN⟩: ∃N,T.length=N:=⟨_,rfl⟩
 have HF:=Lib.hid fun W (T1:Ux.Touch (fun _=>False) w W) (m:Nat) (hm:i+m≤n)=>by
  have h:=rfind_ (.slice a N ca) (.slice (some ⟨g,o+i,none⟩) m (c1-i)) T (sv ((s.drop i).take m)) A W (by rw [←hN];exact hTT.touch0 T1) ((hss.sub i m (by omega) (c1-i)).touch0 T1).i h1 (by rw [Ux.sv_length];simp;omega) h3
  rw [findI_sv] at h
  exact h
 rw [hn] at hss hcap h2 hi⊢
 rw [hN] at hTT h1⊢
 have hcc:=hcs c (List.mem_of_getElem? hc)
 have hcb:c<1114368:=by unfold cp raw at hcc;omega
 have n0:(n:Int)≤1000000000:=by omega
 have i0:(i:Int)<n:=by omega
 have hcap0:(n:Int)≤c1:=by omega
 have HI1:=Lib.hid fun W=>rimpl_ c hcc hcb W
 have HH:=Lib.hid (And.intro hn (And.intro hc hci))
 have z1:decide ((i:Int)<0)=false:=by simp
 have z2:decide ((n:Int)≤i)=false:=by simp;omega
 have z3:(0:Int)≤i:=by omega
 clear hcap hn hN hTT hss hc1 hcc hcb h1 h2 h3 hcs hi hc hci
 go_enter Tryz.func148,Tryz.ntmps148
 go_wp2
 all_goals
  go_loopg [8] 3 (fun gk s8 wr=> ∃m:Nat,s8= .int .i64 m∧m≤gk∧m≤3∧i+m≤n∧wr.cell? ⟨w.heap.size,0,none⟩=some (.slice a N ca)∧Hid (longE T s i m=longE T s i (min 3 (n-i))∧Ux.Touch (fun _=>False) w wr))
  case atStart=>
   refine ⟨(min (3:Int) ((n:Int)-i)).toNat,?_,by omega,by omega,by omega,by simp [Ux.cell_newg],Lib.hid ⟨?_,(Ux.Touch.refl _ _).alloc _⟩⟩
   ·congr 1
    omega
   ·congr 1
    omega
  case round=>
   obtain ⟨m,rfl,hmg,hm3,hmn,hb,HI⟩:=hrel
   by_cases hm0:m=0
   ·subst hm0
    have hci:=HI.out.2.cell HH.out.2.2 (fun f=>f)
    clear hb
    go_wp2_with (go_at_call 178;fail)
    refine (HI1.out _).mono ?_
    rintro e w2 ⟨u,rfl,hu,T2⟩
    have HU:=Lib.hid (And.intro hu T2)
    clear hu T2 hci
    go_wp2
    go_returns
    have hA:atE T s i=(implE c,1):=by
     unfold atE
     rw [HH.out.1,←HI.out.1,List.getD_eq_getElem?_getD,HH.out.2.1]
     rfl
    rw [hA]
    exact ⟨_,rfl,HU.out.1,HI.out.2.trans HU.out.2 fun _ _ f=>f⟩
   ·obtain ⟨g',rfl⟩: ∃g',gk=g'+1:=⟨gk-1,by omega⟩
    have m0:(1:Int)≤m:=by omega
    have m3:(m:Int)≤3:=by omega
    have mn:(i:Int)+m≤n:=by omega
    have HK:=Lib.hid hm0
    have HB:=Lib.hid fun W (T1:Ux.Touch (fun _=>False) wr W)=>T1.cell hb (fun f=>f)
    clear hm0
    go_upto_region 6 with (fail)
    refine Ux.wpr (fun _ w'=>w'.cell? ⟨w.heap.size,0,none⟩=some (.slice a N ca)) (.h false [0] (.q [1,2,3,4,5,6] (.e 7 false false (.q [8,9,10,11] (.line [12]))))) ?_;repeat ((with_reducible refine Ux.qg ?_);refine Ux.qu ?_)
    clear hb
    go_wp2_with (go_at_call 56;fail)
    refine (HF.out _ HI.out.2.drew m hmn).mono ?_
    rintro e w2 ⟨u,rfl,hu,T2⟩
    have HU:=Lib.hid (And.intro hu (HI.out.2.drew.trans T2 fun _ _ f=>f))
    have hb:=HB.out w2 ((Ux.Touch.refl (fun _=>False) wr).drew.trans T2 fun _ _ f=>f)
    clear hu T2
    cases hfe:findE T ((s.drop i).take m) with
    |some l=>
     have HX:=Lib.hid hfe
     rw [hfe] at HU
     clear hfe
     go_wp2_with (fail)
     repeat ((with_reducible refine Ux.qg ?_);refine Ux.qu ?_)
     go_wp2
     go_returns
     have hA:atE T s i=(l,m):=by
      unfold atE
      rw [HH.out.1,←HI.out.1,Ux.longE_some (by omega) HX.out]
      rfl
     rw [hA]
     exact ⟨u,rfl,HU.out.1,HU.out.2⟩
    |none=>
     have HX:=Lib.hid hfe
     rw [hfe] at HU
     clear hfe
     go_wp2_with (fail)
     repeat ((with_reducible refine Ux.qg ?_);refine Ux.qu ?_)
     go_wp2
     go_roundg g'
     case measure=>omega
     case rel=>
      refine ⟨m-1,by congr 1;omega,by omega,by omega,by omega,hb,Lib.hid ⟨?_,HU.out.2⟩⟩
      rw [←HI.out.1,Ux.longE_none (by have:=HK.out;omega) HX.out]
end Go.Proofs.YtikmdhhbamggfaaGreatDoor
namespace Go.Proofs.YtikmdhhbamggfaaGreatDoor
open Go.RowKit
open Ux (Ent sv iv findE atE ofE elemsE KGrow okT)
open Ux.Sign (cp raw)
theorem rv_app (a b:List Nat):rv (a++b)=rv a++rv b:=by
 unfold rv
 rw [List.flatMap_append]
theorem capOk_grow {w:World} {lo:Nat} {t:TypeId} {sz:Nat} {v:Value} {n:Nat} {xs:List Value} (h:KGrow w lo t sz v n xs):capOk v:=by
 obtain ⟨a,c,rfl,_⟩:=h.is
 exact h.cap
set_option maxHeartbeats 8000000 in
set_option maxRecDepth 100000 in
theorem rofsK_ (v vs:Value) (T:List Ent) (s:List Nat) (A:Nat→Prop) (w:World) (hT:RRows w A v T) (hs:SView w vs s) (hcap:capOk vs) (hcs: ∀c∈s,cp c∨raw c) (hok:okT T) (h1:T.length≤1000000) (h2:s.length≤100000000):
 Calls Tryz.prog 101 #[.agg #[v],vs] w fun e w'=> ∃u,e= .returned u∧(RRow w' u (elemsE T s)∧capOk u∧∀g,u.ownBlock=some g→g<w'.heap.size)∧(∀b,u.ownBlock=some b→w.heap.size≤b)∧Ux.Touch (fun _=>False) w w':=by
 have h3: ∀e∈T,e.1.length≤1000000000:=fun e he=>by have:=(hok.2 e he).1.2.1;omega
 have HA:=Lib.hid fun W (i:Nat) (T1:Ux.Touch (fun _=>False) w W) (hi:i<s.length)=>rat_ v vs T s A i W (hT.touch0 T1) (hs.touch0 T1) hcap hcs h1 (by omega) h3 hi
 obtain ⟨_,a,ca,rfl,_,_⟩:=hT
 obtain ⟨a1,c1,rfl,_⟩:=hs
 obtain ⟨n,hn⟩: ∃n,s.length=n:=⟨_,rfl⟩
 obtain ⟨N,hN⟩: ∃N,T.length=N:=⟨_,rfl⟩
 rw [hn] at h2⊢
 rw [hN]
 have HA:=HA.out
 rw [hn,hN] at HA
 have HA:=Lib.hid HA
 have n0:(n:Int)≤100000000:=by omega
 have HH:=Lib.hid (And.intro hn (And.intro hcs hok))
 clear hcap hn hN hcs hok h1 h2 h3
 go_enter Tryz.func101,Tryz.ntmps101
 go_wp2
 go_loopg [5,6] n (fun gk s5 s6 wr=> ∃(i:Nat) (acc:List Nat),s6= .int .i64 i∧i≤n∧n-i≤gk∧wr.cell? ⟨w.heap.size,0,none⟩=some (.slice a N ca)∧Hid (acc++ofE T s i (n-i)=elemsE T s∧acc.length≤8*i∧KGrow wr (w.heap.size+1) 120 4 s5 acc.length (rv acc)∧Ux.Touch (fun _=>False) w wr∧w.heap.size+1≤wr.heap.size))
 case atStart=>
  exact ⟨0,[],rfl,Nat.zero_le _,by omega,by simp [Ux.cell_newg],Lib.hid ⟨by unfold elemsE;rw [HH.out.1];rfl,by simp,KGrow.nil _ _ _ _,(Ux.Touch.refl _ _).alloc _,by simp⟩⟩
 case round=>
  obtain ⟨i,acc,rfl,hin,hig,hb,HI⟩:=hrel
  by_cases h0:i=n
  ·subst h0
   clear hb
   go_wp2
   go_returns
   have e:=HI.out.1
   rw [←HH.out.1,Ux.ofE_end (Nat.le_refl _),List.append_nil] at e
   rw [←e]
   exact ⟨_,rfl,⟨RRow.of_grow rfl HI.out.2.2.1,capOk_grow HI.out.2.2.1,fun g hg=>Ux.own_lt HI.out.2.2.1.1 g hg⟩,fun b hb=>by have:=HI.out.2.2.1.2 b hb;omega,HI.out.2.2.2.1⟩
  ·obtain ⟨g',rfl⟩: ∃g',gk=g'+1:=⟨gk-1,by omega⟩
   have i0:(i:Int)<n:=by omega
   have hil:i<s.length:=by have:=HH.out.1;omega
   have hp:=Ux.atE_pos T s i hil
   have hq:=Ux.atE_ok HH.out.2.2 (fun c hc=>by have:=HH.out.2.1 c hc;unfold cp raw at this;omega) hil
   have hstep:=Ux.ofE_step (E:=T) hil
   rw [HH.out.1] at hstep
   obtain ⟨l,hl1⟩: ∃l,(atE T s i).1=l:=⟨_,rfl⟩
   obtain ⟨k,hk1⟩: ∃k,(atE T s i).2=k:=⟨_,rfl⟩
   have hat:=HA.out wr i HI.out.2.2.2.1 (by omega)
   rw [hl1,hk1] at hat hstep
   rw [hk1,HH.out.1] at hp
   rw [hl1] at hq
   have HX:=Lib.hid (And.intro hp (And.intro hq hstep))
   have HAT:=Lib.hid hat
   have k0:(i:Int)+k≤n:=by omega
   clear hp hq hstep hl1 hk1 hat h0 hil
   go_wp2_with (go_at_call 148;fail)
   refine HAT.out.mono ?_
   rintro e w2 ⟨u,rfl,hu,T2⟩
   have hn2:=HI.out.2.1
   have hl8:=HX.out.2.1.1
   obtain ⟨r,w3,hrun,hG2,hT3⟩:=(HI.out.2.2.1.touch0 T2).app (P:=Tryz.prog) 94 32 _ Tryz.underlying94 infoRE rfl (by omega) u l.length (rv l) hu.src (by have:=T2.size;have:=HI.out.2.2.2.2;omega) (by simp only [maxLen];omega) (by omega)
   have hb2:=hT3.cell (T2.cell hb (fun f=>f)) (fun h=>by have h1:w.heap.size+1≤w.heap.size:=h.1;omega)
   have hsz3:=hT3.size
   have HR:=Lib.hid (And.intro hrun (And.intro hG2 (And.intro hT3 (And.intro T2 hsz3))))
   clear hrun hG2 hT3 T2 hu hn2 hl8 hb hsz3
   go_wp2_with (at_builtin;refine Ux.wpList_app (v1:=u5) (x1:=u) rfl _ _ _ _ rfl rfl rfl (HR.out.1 _) ?_)
   go_roundg g'
   case measure=>omega
   case rel=>
    have hp:=HX.out.1
    have hl8:=HX.out.2.1.1
    have hn2:=HI.out.2.1
    refine ⟨i+k,acc++l,by congr 1,by omega,by omega,hb2,Lib.hid ⟨?_,by simp;omega,by rw [rv_app,List.length_append];exact HR.out.2.1,?_,?_⟩⟩
    ·rw [←HI.out.1,HX.out.2.2,List.append_assoc]
    ·exact Ux.Touch.own (HI.out.2.2.2.1.trans HR.out.2.2.2.1 fun _ _ f=>f) (Nat.le_succ _) HR.out.2.2.1
    ·have:=HR.out.2.2.2.1.size
     have:=HR.out.2.2.2.2
     have:=HI.out.2.2.2.2
     omega
theorem rofs_ (v vs:Value) (T:List Ent) (s:List Nat) (A:Nat→Prop) (w:World) (hT:RRows w A v T) (hs:SView w vs s) (hcap:capOk vs) (hcs: ∀c∈s,cp c∨raw c) (hok:okT T) (h1:T.length≤1000000) (h2:s.length≤100000000):
 Calls Tryz.prog 101 #[.agg #[v],vs] w fun e w'=> ∃u,e= .returned u∧RRow w' u (elemsE T s)∧(∀b,u.ownBlock=some b→w.heap.size≤b)∧Ux.Touch (fun _=>False) w w':=
 (rofsK_ v vs T s A w hT hs hcap hcs hok h1 h2).mono fun e w' ⟨u,h,hr,ho,t⟩=>⟨u,h,hr.1,ho,t⟩
end Go.Proofs.YtikmdhhbamggfaaGreatDoor
namespace Go.Proofs.YtikmdhhbamggfaaGreatDoor
open Go.RowKit
open Ux (Row Ent sv iv elemsE okT)
open Ux.Sign (cp raw signs)
theorem capOk_row {w:World} {lo:Nat} {t:TypeId} {v:Value} {xs:List Value} (h:Row w lo t v xs):capOk v:=by
 rcases h.cases with ⟨rfl,_⟩|⟨g,c,rfl,hc,_⟩
 ·exact Nat.le_refl _
 ·exact hc
set_option maxHeartbeats 4000000 in
set_option maxRecDepth 100000 in
theorem relements_ (v:Value) (T:List Ent) (A:Nat→Prop) (s:ByteArray) (w:World) (hT:RRows w A v T) (hok:okT T) (h1:T.length≤1000000) (h2:s.size≤100000000):
 Calls Tryz.prog 67 #[.agg #[v],.string s] w fun e w'=> ∃u,e= .returned u∧RRow w' u (elemsE T (signs s.data.toList))∧(∀b,u.ownBlock=some b→w.heap.size≤b)∧Ux.Touch (fun _=>False) w w':=by
 have hTT:=hT
 obtain ⟨_,a,ca,rfl,_,_⟩:=hT
 obtain ⟨N,hN⟩: ∃N,T.length=N:=⟨_,rfl⟩
 rw [hN] at hTT⊢
 have HR:=Lib.hid fun W (T1:Ux.Touch (fun _=>False) w W)=>rsigns_ s W (by omega)
 have HO:=Lib.hid fun W (u:Value) (T1:Ux.Touch (fun _=>False) w W) (hu:Row W 0 3 u (iv (sv (signs s.data.toList))))=>rofs_ (.slice a N ca) u T (signs s.data.toList) A W (hTT.touch0 T1) (IView.row hu).s (capOk_row hu) (fun c hc=>Ux.Sign.good_all (Ux.Sign.good_signs _) c hc) hok h1 (by have:=signs_le s.data.toList;have e:s.data.toList.length=s.size:=rfl;omega)
 clear hTT hN hok h1 h2
 go_enter Tryz.func67,Tryz.ntmps67
 have hb:(w.alloc (Obj.cells #[Value.slice a N ca] 28)).cell? ⟨w.heap.size,0,none⟩=some (.slice a N ca):=by rw [Ux.cell_newg];rfl
 have hT1:Ux.Touch (fun _=>False) w (w.alloc (Obj.cells #[Value.slice a N ca] 28)):=(Ux.Touch.refl _ _).alloc _
 have HB:=Lib.hid fun W (T:Ux.Touch (fun _=>False) (w.alloc (Obj.cells #[Value.slice a N ca] 28)) W)=>T.cell hb (fun f=>f)
 have H1:=Lib.hid hT1
 clear hT1
 go_upto_region 1 with (fail)
 refine Ux.wpr (fun _ w'=>w'.cell? ⟨w.heap.size,0,none⟩=some (.slice a N ca)) (.h false [0] (.q [1] (.e 2 true false (.e 3 false false (.line [4]))))) ?_;repeat ((with_reducible refine Ux.qg ?_);refine Ux.qu ?_)
 clear hb
 go_wp2_with (go_at_call 73;fail)
 refine (HR.out _ H1.out.drew).mono ?_
 rintro e w2 ⟨u,rfl,hu,T2⟩
 have H2:=Lib.hid (And.intro hu T2)
 have hb2:=HB.out w2 ((Ux.Touch.refl (fun _=>False) _).drew.trans T2 fun _ _ f=>f)
 clear hu T2
 go_wp2_with (fail)
 refine ⟨hb2,?_⟩
 repeat ((with_reducible refine Ux.qg ?_);refine Ux.qu ?_)
 go_wp2_with (go_at_call 101;fail)
 refine (HO.out _ u (H1.out.drew.trans H2.out.2 fun _ _ f=>f) (H2.out.1.mono (Nat.zero_le _))).mono ?_
 rintro e w3 ⟨u3,rfl,hu3,ho3,T3⟩
 have H3:=Lib.hid (And.intro hu3 (And.intro ho3 T3))
 clear hu3 ho3 T3 hb2
 go_wp2_with (fail)
 repeat ((with_reducible refine Ux.qg ?_);refine Ux.qu ?_)
 go_wp2
 go_returns
 have TT:=H1.out.drew.trans H2.out.2 fun _ _ f=>f
 exact ⟨_,rfl,H3.out.1,fun b hb=>Nat.le_trans TT.size (H3.out.2.1 b hb),TT.trans H3.out.2.2 fun _ _ f=>f⟩
end Go.Proofs.YtikmdhhbamggfaaGreatDoor
namespace Go.Proofs.YtikmdhhbamggfaaGreatDoor
open Go.RowKit
open Ux (Ent sv putE)
set_option maxHeartbeats 8000000 in
set_option maxRecDepth 100000 in
theorem rwithLen_ (v vs vl:Value) (T:List Ent) (s:List Int) (l:List Nat) (A:Nat→Prop) (w:World) (hT:RRows w A v T) (hs:IView w vs s) (hl:RRow w vl l) (h1:s.length≤9223372036854775807) (h2:l.length≤1000000000) (hb:s.length<1∨3<s.length∨8<l.length):
 Calls Tryz.prog 54 #[.agg #[v],vs,vl] w fun e w'=>e= .returned (.tuple #[.agg #[.slice none 0 0],.int .i64 1])∧Ux.Touch (fun _=>False) w w':=by
 obtain ⟨_,a,ca,rfl,_,_⟩:=hT
 obtain ⟨a1,c1,rfl,_⟩:=hs
 obtain ⟨a2,c2,rfl,_⟩:=hl
 obtain ⟨n,hn⟩: ∃n,s.length=n:=⟨_,rfl⟩
 obtain ⟨k,hk⟩: ∃k,l.length=k:=⟨_,rfl⟩
 obtain ⟨N,hN⟩: ∃N,T.length=N:=⟨_,rfl⟩
 rw [hn] at h1 hb⊢
 rw [hk] at h2 hb⊢
 rw [hN]
 have n0:(n:Int)≤9223372036854775807:=by omega
 have k0:(k:Int)≤1000000000:=by omega
 clear hn hk hN
 obtain ⟨P,hP⟩: ∃P,decide ((n:Int)<1)=P:=⟨_,rfl⟩
 obtain ⟨Q,hQ⟩: ∃Q,decide ((3:Int)<n)=Q:=⟨_,rfl⟩
 obtain ⟨R,hR⟩: ∃R,decide ((8:Int)<k)=R:=⟨_,rfl⟩
 have hor:(P||(Q||R))=true:=by
  rw [←hP,←hQ,←hR]
  simp
  omega
 clear hb h1 h2
 cases P<;>cases Q<;>cases R
 all_goals first
  |exact absurd hor (by decide)
  |(clear hor
    go_enter Tryz.func54,Tryz.ntmps54
    go_wp2
    go_returns
    all_goals first
     |exact ⟨rfl,((Ux.Touch.refl (fun _=>False) w).alloc _).alloc _⟩
     |exact ⟨rfl,(((Ux.Touch.refl (fun _=>False) w).alloc _).alloc _).setCell (fun h=>by simp at h;omega) _⟩)
def RWithR (w:World) (lo:Nat) (A:Nat→Prop) (T:List Ent) (s:List Int) (l:List Nat) (e:Ending):Prop:=
 if s.all isI=false then e= .returned (.tuple #[.agg #[.slice none 0 0],.int .i64 1])
 else if (Ux.findE T (s.map Int.toNat)).isSome=false∧500≤T.length then e= .returned (.tuple #[.agg #[.slice none 0 0],.int .i64 65])
 else∃u,e= .returned (.tuple #[.agg #[u],.int .i64 0])∧RRows w (fun b=>A b∨lo≤b) u (putE T (s.map Int.toNat) l)
set_option maxHeartbeats 16000000 in
set_option maxRecDepth 100000 in
theorem rwith_ (v vs vl:Value) (T:List Ent) (s:List Int) (l:List Nat) (A:Nat→Prop) (w:World) (hT:RRows w A v T) (hs:IView w vs s) (hl:RRow w vl l) (h1:1≤s.length) (h3:s.length≤3) (h8:l.length≤8) (hn:T.length≤10000) (hT3: ∀e∈T,1≤e.1.length∧e.1.length≤3):
 Calls Tryz.prog 54 #[.agg #[v],vs,vl] w fun e w'=>RWithR w' w.heap.size A T s l e∧Ux.Touch (fun _=>False) w w':=by
 have hTT:=hT
 have hss:=hs
 have hll:=hl
 obtain ⟨_,a,ca,rfl,_,_⟩:=hT
 obtain ⟨a1,c1,rfl,hc1⟩:=hs
 obtain ⟨a2,c2,rfl,_⟩:=hl
 obtain ⟨n,hnn⟩: ∃n,s.length=n:=⟨_,rfl⟩
 obtain ⟨k,hk⟩: ∃k,l.length=k:=⟨_,rfl⟩
 obtain ⟨N,hN⟩: ∃N,T.length=N:=⟨_,rfl⟩
 rw [hnn] at hss⊢
 rw [hk] at hll⊢
 rw [hN] at hTT⊢
 have n1:(1:Int)≤n:=by omega
 have n3:(n:Int)≤3:=by omega
 have k8:(k:Int)≤8:=by omega
 have N0:(N:Int)≤10000:=by omega
 have HH:=Lib.hid (And.intro hc1 (And.intro hnn (And.intro hk (And.intro hN (And.intro h1 (And.intro h3 (And.intro h8 (And.intro hn (And.intro hT3 (And.intro hTT (And.intro hss hll)))))))))))
 clear hc1 hnn hk hN h1 h3 h8 hn hT3 hTT hss hll
 go_enter Tryz.func54,Tryz.ntmps54
 go_wp2
 have hb0:((w.alloc (Obj.cells #[Value.slice a N ca] 28)).alloc (Obj.cells #[Value.slice none 0 0] 28)).cell? ⟨w.heap.size,0,none⟩=some (.slice a N ca):=((Ux.Touch.refl (fun _=>False) _).alloc _).cell (by rw [Ux.cell_newg];rfl) (fun f=>f)
 have hb1:((w.alloc (Obj.cells #[Value.slice a N ca] 28)).alloc (Obj.cells #[Value.slice none 0 0] 28)).heap[w.heap.size+1]? =some (.cells #[.slice none 0 0] 28 (0,0)):=by
  have:=heap_alloc_new (w.alloc (Obj.cells #[Value.slice a N ca] 28)) (Obj.cells #[Value.slice none 0 0] 28)
  simpa using this
 have hT1:Ux.Touch (fun _=>False) w ((w.alloc (Obj.cells #[Value.slice a N ca] 28)).alloc (Obj.cells #[Value.slice none 0 0] 28)):=((Ux.Touch.refl _ _).alloc _).alloc _
 have hsz:((w.alloc (Obj.cells #[Value.slice a N ca] 28)).alloc (Obj.cells #[Value.slice none 0 0] 28)).heap.size=w.heap.size+2:=by simp
 generalize (w.alloc (Obj.cells #[Value.slice a N ca] 28)).alloc (Obj.cells #[Value.slice none 0 0] 28)=W1 at hb0 hb1 hT1 hsz⊢
 have H1:=Lib.hid (And.intro hb1 (And.intro hT1 hsz))
 clear hb1 hT1 hsz
 go_loopg [8] n (fun g s8 wr=> ∃i:Nat,s8= .int .i64 i∧i+g=n∧wr.cell? ⟨w.heap.size,0,none⟩=some (.slice a N ca)∧wr.heap[w.heap.size+1]? =some (.cells #[.slice none 0 0] 28 (0,0))∧Hid ((∀j c,j<i→s[j]? =some c→isI c=true)∧Ux.Touch (fun _=>False) W1 wr))
 case atStart=>exact ⟨0,rfl,by omega,hb0,H1.out.1,Lib.hid ⟨fun j c h _=>absurd h (Nat.not_lt_zero _),Ux.Touch.refl _ _⟩⟩
 case round=>
  clear hb0
  obtain ⟨i,rfl,hig,hb0,hb1,HI⟩:=hrel
  have i0:(0:Int)≤i:=by omega
  by_cases hlt:i<n
  ·obtain ⟨g',rfl⟩: ∃g',gk=g'+1:=⟨gk-1,by omega⟩
   have i1:(i:Int)<n:=by omega
   obtain ⟨c,hc⟩: ∃c,s[i]? =some c:=⟨_,List.getElem?_eq_getElem (by have:=HH.out.2.1;omega)⟩
   obtain ⟨g1,o1,ea,hcell⟩:=HH.out.1 i c hc
   subst ea
   have c1:=(H1.out.2.1.trans HI.out.2 fun _ _ f=>f).cell hcell (fun f=>f)
   obtain ⟨b,hb⟩: ∃b,isI c=b:=⟨_,rfl⟩
   have hk:=rissign_ c wr
   rw [hb] at hk
   have HK:=Lib.hid hk
   have HC:=Lib.hid (And.intro hc hb)
   have f0:wr.frozen? ⟨w.heap.size+1,0,none⟩=false:=Ux.frozen_row hb1 0
   have HB1:=Lib.hid hb1
   clear hc hcell hk hb hlt hb1
   go_wp2_with (go_at_call 108;fail)
   refine HK.out.mono ?_
   rintro e w4 ⟨rfl,hw⟩
   obtain rfl:wr=w4:=hw.symm
   cases b with
   |false=>
    clear HK
    have f1:wr.cell? ⟨w.heap.size+1,0,none⟩=some (.slice none 0 0):=by
     rw [cell_of_row _ (w.heap.size+1) 0 _ _ (0,0) HB1.out]
     rfl
    have f2:(wr.setCell ⟨w.heap.size+1,0,none⟩ (.slice none 0 0)).cell? ⟨w.heap.size+1,0,none⟩=some (.slice none 0 0):=by
     rw [cell_of_row _ (w.heap.size+1) 0 _ _ (0,0) (Ux.setCell_row HB1.out 0 (.slice none 0 0))]
     rfl
    go_wp2
    refine bodyPost_ret (by simp [results,Tryz.results54,go_sem,f2];try rfl) rfl ?_
    refine ⟨?_,(H1.out.2.1.trans HI.out.2 fun _ _ f=>f).trans (R:=fun _=>False) ((Ux.Touch.refl (fun b=>b=w.heap.size+1) wr).setCell (p:=⟨w.heap.size+1,0,none⟩) (fun _=>rfl) _) fun b hb h=>by omega⟩
    unfold RWithR
    rw [if_pos (List.all_eq_false.2 ⟨c,List.mem_of_getElem? HC.out.1,by rw [HC.out.2];simp⟩)]
   |true=>
    clear HK
    go_wp2
    go_roundg g'
    case measure=>omega
    case rel=>
     refine ⟨i+1,by congr 1,by omega,hb0,HB1.out,Lib.hid ⟨fun j d h1 h2=> ?_,HI.out.2⟩⟩
     by_cases hj:j=i
     ·subst hj
      have:d=c:=Option.some.inj (h2.symm.trans HC.out.1)
      subst this
      exact HC.out.2
     ·exact HI.out.1 j d (by omega) h2
  ·obtain rfl:n=i:=by omega
   have hall:s.all isI=true:=List.all_eq_true.2 fun c hc=>by
    obtain ⟨j,hj,rfl⟩:=List.mem_iff_getElem.1 hc
    exact HI.out.1 j _ (by have:=HH.out.2.1;omega) (List.getElem?_eq_getElem hj)
   obtain ⟨hc1,hnn,hk,hN,h1,h3,h8,hn,hT3,hTT,hss,hll⟩:=HH.out
   have T0:=H1.out.2.1.trans HI.out.2 fun _ _ f=>f
   obtain ⟨t,ht,_,_,_⟩:=keyOk_sv (s:=s) (by unfold keyOk;rw [hall];simp;omega)
   subst ht
   have hsv:(sv t).map Int.toNat=t:=by unfold sv;rw [List.map_map];exact (List.map_congr_left fun _ _=>rfl).trans (List.map_id t)
   rw [Ux.sv_length] at h1 h3
   have hss:=hss.s
   have hf:=rfind_ (.slice a N ca) (.slice a1 n c1) T (sv t) A wr (by rw [←hN] at hTT⊢;exact hTT.touch0 T0) (hss.i.touch0 T0) (by omega) (by rw [Ux.sv_length];omega) (fun e he=>by have:=(hT3 e he).2;omega)
   rw [findI_sv] at hf
   obtain ⟨b,hb⟩: ∃b,(Ux.findE T t).isSome=b:=⟨_,rfl⟩
   rw [hb] at hf
   have HF:=Lib.hid hf
   have hA0:=hTT.mono (A':=fun b=>A b∧b<w.heap.size) fun g h1 h2=>⟨h2,h1⟩
   have HP:=Lib.hid fun W (T1:Ux.Touch (fun _=>False) wr W)=>rrput_ (.slice a N ca) (.slice a1 n c1) (.slice a2 k c2) T t l (fun b=>A b∧b<w.heap.size) W ((hA0.touch0 T0).touch0 T1) ((hss.touch0 T0).touch0 T1) ((hll.touch0 T0).touch0 T1) h1 h3 (by omega) hn hT3
   have HB:=Lib.hid (And.intro hall (And.intro hb (And.intro hb1 (And.intro T0 (And.intro hsv hN)))))
   have HQ:=Lib.hid fun W (T1:Ux.Touch (fun _=>False) wr W)=>T1.cell hb0 (fun f=>f)
   clear hA0 hsv hall hc1 hnn hk hN h1 h3 h8 hn hT3 hTT hss hll T0 hf hb hb1 hlt
   go_wp2_with (go_at_call 56;fail)
   refine HF.out.mono ?_
   rintro e w4 ⟨u,rfl,_,T4⟩
   have hb0:=HQ.out _ T4
   have H4:=Lib.hid T4
   clear T4
   have hb1:=H4.out.heap HB.out.2.2.1 (fun f=>f)
   have f0:w4.frozen? ⟨w.heap.size+1,0,none⟩=false:=Ux.frozen_row hb1 0
   have f1:w4.cell? ⟨w.heap.size+1,0,none⟩=some (.slice none 0 0):=by
    rw [cell_of_row _ (w.heap.size+1) 0 _ _ (0,0) hb1]
    rfl
   have f2:(w4.setCell ⟨w.heap.size+1,0,none⟩ (.slice none 0 0)).cell? ⟨w.heap.size+1,0,none⟩=some (.slice none 0 0):=by
    rw [cell_of_row _ (w.heap.size+1) 0 _ _ (0,0) (Ux.setCell_row hb1 0 (.slice none 0 0))]
    rfl
   have HB1:=Lib.hid hb1
   clear hb1
   obtain ⟨D,hD⟩: ∃D,decide ((500:Int)≤N)=D:=⟨_,rfl⟩
   have HD:=Lib.hid hD
   cases b<;>cases D
   all_goals go_wp2_with (first|(go_at_call 97;fail)|fail)
   all_goals first
    |(refine (HP.out _ H4.out).mono ?_
      rintro e w5 ⟨u2,rfl,hR,T5⟩
      have hR0:=hR
      obtain ⟨_,a5,c5,hu2,_⟩:=hR0
      subst hu2
      have hb5:=T5.heap HB1.out (fun f=>f)
      have HR:=Lib.hid (And.intro hR T5)
      obtain ⟨n5,hn5⟩: ∃n5,(putE T t l).length=n5:=⟨_,rfl⟩
      rw [hn5] at HR⊢
      have g1:w5.frozen? ⟨w.heap.size+1,0,none⟩=false:=Ux.frozen_row hb5 0
      have g0:w5.cell? ⟨w.heap.size+1,0,none⟩=some (.slice none 0 0):=by
       rw [cell_of_row _ (w.heap.size+1) 0 _ _ (0,0) hb5]
       rfl
      have g2:(w5.setCell ⟨w.heap.size+1,0,none⟩ (.slice a5 n5 c5)).cell? ⟨w.heap.size+1,0,none⟩=some (.slice a5 n5 c5):=by
       rw [cell_of_row _ (w.heap.size+1) 0 _ _ (0,0) (Ux.setCell_row hb5 0 (.slice a5 n5 c5))]
       rfl
      have HB5:=Lib.hid hb5
      clear hR T5 f0 f1 f2 hn5 hb5
      go_wp2
      refine bodyPost_ret (by simp [results,Tryz.results54,go_sem,g2];try rfl) rfl ?_
      have ts:Ux.Touch (fun b=>b=w.heap.size+1) w5 (w5.setCell ⟨w.heap.size+1,0,none⟩ (.slice a5 n5 c5)):=(Ux.Touch.refl (fun b=>b=w.heap.size+1) w5).setCell (p:=⟨w.heap.size+1,0,none⟩) (fun _=>rfl) _
      have hz:w.heap.size+2≤w4.heap.size:=by
       have h1:=H1.out.2.2
       have h2:=H1.out.2.1.size
       have h3:=H4.out.size
       have h4:=HI.out.2.size
       omega
      refine ⟨?_,((HB.out.2.2.2.1.trans H4.out fun _ _ f=>f).trans HR.out.2 fun _ _ f=>f).trans (R:=fun _=>False) ts fun b hb h=>by omega⟩
      unfold RWithR
      rw [if_neg (by rw [HB.out.1];simp),HB.out.2.2.2.2.1,if_neg (fun h=>by
       rcases h with ⟨ha,hb'⟩
       first
        |exact absurd (HB.out.2.1.symm.trans ha) (by decide)
        |(have:=of_decide_eq_false HD.out;have:=HB.out.2.2.2.2.2;omega))]
      exact ⟨_,rfl,(HR.out.1.touchB ts fun g hg hA h=>by
       rcases hA with hA|hA
       ·omega
       ·omega).mono fun g _ hA=>by
        rcases hA with hA|hA
        ·exact .inl hA.1
        ·exact .inr (by omega)⟩)
    |(refine bodyPost_ret (by simp [results,Tryz.results54,go_sem,f2];try rfl) rfl ?_
      refine ⟨?_,(HB.out.2.2.2.1.trans H4.out fun _ _ f=>f).trans (R:=fun _=>False) ((Ux.Touch.refl (fun b=>b=w.heap.size+1) w4).setCell (p:=⟨w.heap.size+1,0,none⟩) (fun _=>rfl) _) fun b hb h=>by omega⟩
      unfold RWithR
      rw [if_neg (by rw [HB.out.1];simp),HB.out.2.2.2.2.1,if_pos ⟨HB.out.2.1,by have:=of_decide_eq_true HD.out;have:=HB.out.2.2.2.2.2;omega⟩])
end Go.Proofs.YtikmdhhbamggfaaGreatDoor
namespace Go.Proofs.YtikmdhhbamggfaaGreatDoor
open Go.RowKit
open Ux (Row Ent sv ev findE putE setE okE okT SameE SortedE)
open Ux.Sign (cp raw)
theorem sv_nat (t:List Nat):(sv t).map Int.toNat=t:=by
 unfold sv
 rw [List.map_map]
 exact (List.map_congr_left fun _ _=>rfl).trans (List.map_id t)
def codeE (T:List Ent) (s:List Int) (l:List Nat):Nat:=if keyOk s=false∨8<l.length then 1 else if (findE T (s.map Int.toNat)).isSome=false∧500≤T.length then 65 else 0
def stepU (T E:List Ent) (s:List Int) (l:List Nat):List Ent:=if codeE T s l=0 then setE E (s.map Int.toNat) l else E
def stepT (T:List Ent) (s:List Int) (l:List Nat):List Ent:=if codeE T s l=0 then putE T (s.map Int.toNat) l else T
theorem full_iff {E T:List Ent} (hS:SameE E T) (hok:okT E) (hE:E.length≤500) (t l:List Nat):((findE T t).isSome=false∧500≤T.length)↔500<(setE E t l).length:=by
 rw [←Ux.findE_perm hok.1 hS.1,Ux.setE_len,←hS.1.length_eq]
 by_cases h:t∈E.map (·.1)
 ·rw [if_pos h]
  obtain ⟨e,he,rfl⟩:=List.mem_map.1 h
  rw [Ux.findE_mem hok.1 he]
  simp
  omega
 ·rw [if_neg h,Ux.findE_none' h]
  simp
  omega
theorem code0 {T:List Ent} {s:List Int} {l:List Nat} (h:codeE T s l=0): ∃t,s=sv t∧(1≤t.length∧t.length≤3∧∀c∈t,cp c∨raw c)∧l.length≤8∧¬((findE T t).isSome=false∧500≤T.length):=by
 unfold codeE at h
 split at h
 ·cases h
 ·rename_i h1
  split at h
  ·cases h
  ·rename_i h2
   have hk:keyOk s=true:=by
    cases hk:keyOk s with
    |true=>rfl
    |false=>exact absurd (.inl hk) h1
   obtain ⟨t,rfl,a,b,c⟩:=keyOk_sv hk
   rw [sv_nat] at h2
   exact ⟨t,rfl,⟨a,b,c⟩,by omega,h2⟩
theorem step_ok {E T:List Ent} (hS:SameE E T) (hok:okT E) (hsig: ∀e∈E,∀c∈e.1,cp c∨raw c) (hE:E.length≤500) (s:List Int) (l:List Nat) (hlt: ∀x∈l,x<4294967296):
 SameE (stepU T E s l) (stepT T s l)∧okT (stepU T E s l)∧(∀e∈stepU T E s l,∀c∈e.1,cp c∨raw c)∧(stepU T E s l).length≤500:=by
 unfold stepU stepT
 by_cases h:codeE T s l=0
 ·rw [if_pos h,if_pos h]
  obtain ⟨t,rfl,⟨a,b,c⟩,h8,hf⟩:=code0 h
  rw [sv_nat]
  have hn:okE (t,l):=⟨⟨a,b,fun x hx=>by have:=c x hx;unfold cp raw at this;omega⟩,h8,hlt⟩
  refine ⟨hS.put hok hn,Ux.setE_ok hok hn,fun e he=> ?_,?_⟩
  ·rcases (Ux.setE_mem e).1 he with rfl|⟨h1,_⟩
   ·exact c
   ·exact hsig e h1
  ·rw [full_iff hS hok hE t l] at hf
   omega
 ·rw [if_neg h,if_neg h]
  exact ⟨hS,hok,hsig,hE⟩
theorem twithC_ (B mb:Nat) (E T:List Ent) (s:List Int) (l:List Nat) (vs vl:Value) (w:World) (hT:TableAt w B mb E) (hS:SameE E T) (hs:IView w vs s) (h63:s.length≤9223372036854775807) (hl:Row w 0 100 vl (ev l)) (hlt: ∀x∈l,x<4294967296) (h12:l.length≤12) (hE:E.length≤500):
 Calls Tryz.prog 53 #[.pointer (some ⟨B,0,none⟩),vs,vl] w fun e w'=> ∃P,e= .returned (.tuple #[.pointer P,.int .i64 (codeE T s l:Nat)])∧(codeE T s l=0∧(∃B' mb',P=some ⟨B',0,none⟩∧TableAt w' B' mb' (stepU T E s l))∨codeE T s l≠0∧P=none)∧Ux.Touch (fun _=>False) w w':=by
 have hok:=hT.1.1
 obtain ⟨a,c,hv,_⟩:=hl.is
 rw [Ux.ev_length] at hv
 by_cases hb:keyOk s=false∨8<l.length
 ·have h1:codeE T s l=1:=by unfold codeE;rw [if_pos hb]
  rw [h1]
  subst hv
  refine (twithNo_ _ s vs a l.length c w hs h63 (by omega) hb).mono ?_
  rintro e w' ⟨rfl,T1⟩
  exact ⟨none,rfl,.inr ⟨by decide,rfl⟩,T1⟩
 ·have hk:keyOk s=true:=by
   cases hk:keyOk s with
   |true=>rfl
   |false=>exact absurd (.inl hk) hb
  have h8:l.length≤8:=by omega
  obtain ⟨t,rfl,h1,h3,hc⟩:=keyOk_sv hk
  have hn:okE (t,l):=⟨⟨h1,h3,fun x hx=>by have:=hc x hx;unfold cp raw at this;omega⟩,h8,hlt⟩
  have hcode:codeE T (sv t) l=if 500<(setE E t l).length then 65 else 0:=by
   unfold codeE
   rw [if_neg hb,sv_nat]
   by_cases hf:(findE T t).isSome=false∧500≤T.length
   ·rw [if_pos hf,if_pos ((full_iff hS hok hE t l).1 hf)]
   ·rw [if_neg hf,if_neg fun h=>hf ((full_iff hS hok hE t l).2 h)]
  refine (twith_ B mb E t l vs vl w hT hs.s hl hn hc hE).mono ?_
  rintro e w' ⟨hR,T1⟩
  unfold WithR at hR
  by_cases hf:500<(setE E t l).length
  ·rw [if_pos hf] at hR hcode
   rw [hcode]
   exact ⟨none,hR,.inr ⟨by decide,rfl⟩,T1⟩
  ·rw [if_neg hf] at hR hcode
   obtain ⟨B',mb',he,_,hT'⟩:=hR
   rw [hcode]
   refine ⟨_,he,.inl ⟨rfl,B',mb',rfl,?_⟩,T1⟩
   unfold stepU
   rw [if_pos hcode,sv_nat]
   exact hT'
theorem rwithC_ (v vs vl:Value) (T:List Ent) (s:List Int) (l:List Nat) (A:Nat→Prop) (w:World) (hT:RRows w A v T) (hs:IView w vs s) (h63:s.length≤9223372036854775807) (hl:RRow w vl l) (h12:l.length≤12) (hn:T.length≤10000) (hT3: ∀e∈T,1≤e.1.length∧e.1.length≤3):
 Calls Tryz.prog 54 #[.agg #[v],vs,vl] w fun e w'=> ∃u,e= .returned (.tuple #[.agg #[u],.int .i64 (codeE T s l:Nat)])∧RRows w' (fun b=>A b∨w.heap.size≤b) u (if codeE T s l=0 then putE T (s.map Int.toNat) l else [])∧Ux.Touch (fun _=>False) w w':=by
 by_cases hb:s.length<1∨3<s.length∨8<l.length
 ·have h1:codeE T s l=1:=by
   unfold codeE
   rw [if_pos]
   rcases hb with h|h|h
   ·left
    unfold keyOk
    rw [decide_eq_false (by omega)]
    rfl
   ·left
    unfold keyOk
    rw [show decide (s.length≤3)=false from decide_eq_false (by omega)]
    simp
   ·exact .inr h
  rw [h1]
  refine (rwithLen_ v vs vl T s l A w hT hs hl h63 (by omega) hb).mono ?_
  rintro e w' ⟨rfl,T1⟩
  exact ⟨_,rfl,RRows.nil _ _,T1⟩
 ·have hlen:1≤s.length∧s.length≤3∧l.length≤8:=by omega
  refine (rwith_ v vs vl T s l A w hT hs hl hlen.1 hlen.2.1 hlen.2.2 hn hT3).mono ?_
  rintro e w' ⟨hR,T1⟩
  unfold RWithR at hR
  have hk:keyOk s=s.all isI:=by
   unfold keyOk
   rw [decide_eq_true hlen.1,decide_eq_true hlen.2.1]
   rfl
  have hcode:codeE T s l=if s.all isI=false then 1 else if (findE T (s.map Int.toNat)).isSome=false∧500≤T.length then 65 else 0:=by
   unfold codeE
   rw [hk]
   by_cases ha:s.all isI=false
   ·rw [if_pos (.inl ha),if_pos ha]
   ·rw [if_neg (fun h=>by rcases h with h|h;exact ha h;omega),if_neg ha]
  by_cases ha:s.all isI=false
  ·rw [if_pos ha] at hR hcode
   rw [hcode]
   exact ⟨_,hR,RRows.nil _ _,T1⟩
  ·rw [if_neg ha] at hR hcode
   by_cases hf:(findE T (s.map Int.toNat)).isSome=false∧500≤T.length
   ·rw [if_pos hf] at hR hcode
    rw [hcode]
    exact ⟨_,hR,RRows.nil _ _,T1⟩
   ·rw [if_neg hf] at hR hcode
    rw [hcode]
    obtain ⟨u,he,hu⟩:=hR
    exact ⟨u,he,hu,T1⟩
end Go.Proofs.YtikmdhhbamggfaaGreatDoor
