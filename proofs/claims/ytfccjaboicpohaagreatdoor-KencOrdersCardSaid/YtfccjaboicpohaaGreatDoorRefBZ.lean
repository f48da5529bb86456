/- A part of the proof that the statement holds for every input that it names. No other condition. -/
import Derived.Test.YtfccjaboicpohaaGreatDoorRefAZ
set_option linter.unusedVariables false
set_option linter.unusedSimpArgs false
namespace Go.Proofs.YtfccjaboicpohaaGreatDoor
open Go.RowKit
open Ux (Ent sv iv findE implE longE atE)
open Ux.Sign (cp raw)
theorem SView.sub {w:World} {g o n c:Nat} {s:List Nat} (h:SView w (.slice (some ⟨g,o,none⟩) n c) s) (i m:Nat) (hm:i+m≤s.length) (c':Nat):SView w (.slice (some ⟨g,o+i,none⟩) m c') ((s.drop i).take m):=by
 obtain ⟨a,k,e,hc⟩:=h
 cases e
 refine ⟨_,c',by rw [List.length_take,List.length_drop,Nat.min_eq_left (by omega)],fun j x hj=>⟨g,o+i,rfl,?_⟩⟩
 have:s[i+j]? =some x:=by
  rw [List.getElem?_take] at hj
  split at hj
  ·rw [List.getElem?_drop] at hj
   exact hj
  ·cases hj
 obtain ⟨g',o',e,h1⟩:=hc _ _ this
 cases e
 rw [Nat.add_assoc]
 exact h1
set_option maxHeartbeats 8000000 in
set_option maxRecDepth 100000 in
theorem rat_ (v vs:Value) (T:List Ent) (s:List Nat) (A:Nat→Prop) (i:Nat) (w:World) (hT:RRows w A v T) (hs:SView w vs s) (hcap:capOk vs) (hcs: ∀c∈s,cp c∨raw c) (h1:T.length≤1000000) (h2:s.length≤1000000000) (h3: ∀e∈T,e.1.length≤1000000000) (hi:i<s.length):
 Calls Tryz.prog 105 #[.agg #[v],vs,.int .i64 i] w fun e w'=> ∃u,e= .returned (.tuple #[u,.int .i64 ((atE T s i).2:Nat)])∧RRow w' u (atE T s i).1∧Ux.Touch (fun _=>False) w w':=by
 obtain ⟨c,hc⟩: ∃c,s[i]? =some c:=⟨_,List.getElem?_eq_getElem hi⟩
 have hss:=hs
 have hTT:=hT
 obtain ⟨_,a,ca,rfl,_,_⟩:=hT
 obtain ⟨a1,c1,rfl,hc1⟩:=hs
 obtain ⟨g,o,rfl,hci⟩:=hc1 i c hc
 have hcap:s.length≤c1:=hcap
 obtain ⟨n,hn⟩: ∃n,s.length=n:=⟨_,rfl⟩
 obtain ⟨N,hN⟩: ∃N,T.length=N:=⟨_,rfl⟩
 have HF:=Lib.hid fun W (T1:Ux.Touch (fun _=>False) w W) (m:Nat) (hm:i+m≤n)=>by
  have h:=rfind_ (.slice a N ca) (.slice (some ⟨g,o+i,none⟩) m (c1-i)) T (sv ((s.drop i).take m)) A W (by rw [←hN];exact hTT.touch0 T1) ((hss.sub i m (by omega) (c1-i)).touch0 T1).i h1 (by rw [Ux.sv_length];simp;omega) h3
  rw [findI_sv] at h
  exact h
 rw [hn] at hss hcap h2 hi⊢
 rw [hN] at hTT h1⊢
 have hcc:=hcs c (List.mem_of_getElem? hc)
 have hcb:c<1114368:=by unfold cp raw at hcc;omega
 have n0:(n:Int)≤1000000000:=by omega
 have i0:(i:Int)<n:=by omega
 have hcap0:(n:Int)≤c1:=by omega
 have HI1:=Lib.hid fun W=>rimpl_ c hcc hcb W
 have HH:=Lib.hid (And.intro hn (And.intro hc hci))
 have z1:decide ((i:Int)<0)=false:=by simp
 have z2:decide ((n:Int)≤i)=false:=by simp;omega
 have z3:(0:Int)≤i:=by omega
 clear hcap hn hN hTT hss hc1 hcc hcb h1 h2 h3 hcs hi hc hci
 go_enter Tryz.func105,Tryz.ntmps105
 go_wp2
 all_goals
  go_loopg [8] 3 (fun gk s8 wr=> ∃m:Nat,s8= .int .i64 m∧m≤gk∧m≤3∧i+m≤n∧wr.cell? ⟨w.heap.size,0,none⟩=some (.slice a N ca)∧Hid (longE T s i m=longE T s i (min 3 (n-i))∧Ux.Touch (fun _=>False) w wr))
  case atStart=>
   refine ⟨(min (3:Int) ((n:Int)-i)).toNat,?_,by omega,by omega,by omega,by simp [Ux.cell_newg],Lib.hid ⟨?_,(Ux.Touch.refl _ _).alloc _⟩⟩
   ·congr 1
    omega
   ·congr 1
    omega
  case round=>
   obtain ⟨m,rfl,hmg,hm3,hmn,hb,HI⟩:=hrel
   by_cases hm0:m=0
   ·subst hm0
    have hci:=HI.out.2.cell HH.out.2.2 (fun f=>f)
    clear hb
    go_wp2_with (go_at_call 157;fail)
    refine (HI1.out _).mono ?_
    rintro e w2 ⟨u,rfl,hu,T2⟩
    have HU:=Lib.hid (And.intro hu T2)
    clear hu T2 hci
    go_wp2
    go_returns
    have hA:atE T s i=(implE c,1):=by
     unfold atE
     rw [HH.out.1,←HI.out.1,List.getD_eq_getElem?_getD,HH.out.2.1]
     rfl
    rw [hA]
    exact ⟨_,rfl,HU.out.1,HI.out.2.trans HU.out.2 fun _ _ f=>f⟩
   ·obtain ⟨g',rfl⟩: ∃g',gk=g'+1:=⟨gk-1,by omega⟩
    have m0:(1:Int)≤m:=by omega
    have m3:(m:Int)≤3:=by omega
    have mn:(i:Int)+m≤n:=by omega
    have HK:=Lib.hid hm0
    have HB:=Lib.hid fun W (T1:Ux.Touch (fun _=>False) wr W)=>T1.cell hb (fun f=>f)
    clear hm0
    go_upto_region 6 with (fail)
    refine Ux.wpr (fun _ w'=>w'.cell? ⟨w.heap.size,0,none⟩=some (.slice a N ca)) (.h false [0] (.q [1,2,3,4,5,6] (.e 7 false false (.q [8,9,10,11] (.line [12]))))) ?_;repeat ((with_reducible refine Ux.qg ?_);refine Ux.qu ?_)
    clear hb
    go_wp2_with (go_at_call 22;fail)
    refine (HF.out _ HI.out.2.drew m hmn).mono ?_
    rintro e w2 ⟨u,rfl,hu,T2⟩
    have HU:=Lib.hid (And.intro hu (HI.out.2.drew.trans T2 fun _ _ f=>f))
    have hb:=HB.out w2 ((Ux.Touch.refl (fun _=>False) wr).drew.trans T2 fun _ _ f=>f)
    clear hu T2
    cases hfe:findE T ((s.drop i).take m) with
    |some l=>
     have HX:=Lib.hid hfe
     rw [hfe] at HU
     clear hfe
     go_wp2_with (fail)
     repeat ((with_reducible refine Ux.qg ?_);refine Ux.qu ?_)
     go_wp2
     go_returns
     have hA:atE T s i=(l,m):=by
      unfold atE
      rw [HH.out.1,←HI.out.1,Ux.longE_some (by omega) HX.out]
      rfl
     rw [hA]
     exact ⟨u,rfl,HU.out.1,HU.out.2⟩
    |none=>
     have HX:=Lib.hid hfe
     rw [hfe] at HU
     clear hfe
     go_wp2_with (fail)
     repeat ((with_reducible refine Ux.qg ?_);refine Ux.qu ?_)
     go_wp2
     go_roundg g'
     case measure=>omega
     case rel=>
      refine ⟨m-1,by congr 1;omega,by omega,by omega,by omega,hb,Lib.hid ⟨?_,HU.out.2⟩⟩
      rw [←HI.out.1,Ux.longE_none (by have:=HK.out;omega) HX.out]
end Go.Proofs.YtfccjaboicpohaaGreatDoor
namespace Go.Proofs.YtfccjaboicpohaaGreatDoor
open Go.RowKit
open Ux (Ent sv iv findE atE ofE elemsE KGrow okT)
open Ux.Sign (cp raw)
theorem rv_app (a b:List Nat):rv (a++b)=rv a++rv b:=by
 unfold rv
 rw [List.flatMap_append]
theorem capOk_grow {w:World} {lo:Nat} {t:TypeId} {sz:Nat} {v:Value} {n:Nat} {xs:List Value} (h:KGrow w lo t sz v n xs):capOk v:=by
 obtain ⟨a,c,rfl,_⟩:=h.is
 exact h.cap
set_option maxHeartbeats 8000000 in
set_option maxRecDepth 100000 in
theorem rofsK_ (v vs:Value) (T:List Ent) (s:List Nat) (A:Nat→Prop) (w:World) (hT:RRows w A v T) (hs:SView w vs s) (hcap:capOk vs) (hcs: ∀c∈s,cp c∨raw c) (hok:okT T) (h1:T.length≤1000000) (h2:s.length≤100000000):
 Calls Tryz.prog 55 #[.agg #[v],vs] w fun e w'=> ∃u,e= .returned u∧(RRow w' u (elemsE T s)∧capOk u∧∀g,u.ownBlock=some g→g<w'.heap.size)∧(∀b,u.ownBlock=some b→w.heap.size≤b)∧Ux.Touch (fun _=>False) w w':=by
 have h3: ∀e∈T,e.1.length≤1000000000:=fun e he=>by have:=(hok.2 e he).1.2.1;omega
 have HA:=Lib.hid fun W (i:Nat) (T1:Ux.Touch (fun _=>False) w W) (hi:i<s.length)=>rat_ v vs T s A i W (hT.touch0 T1) (hs.touch0 T1) hcap hcs h1 (by omega) h3 hi
 obtain ⟨_,a,ca,rfl,_,_⟩:=hT
 obtain ⟨a1,c1,rfl,_⟩:=hs
 obtain ⟨n,hn⟩: ∃n,s.length=n:=⟨_,rfl⟩
 obtain ⟨N,hN⟩: ∃N,T.length=N:=⟨_,rfl⟩
 rw [hn] at h2⊢
 rw [hN]
 have HA:=HA.out
 rw [hn,hN] at HA
 have HA:=Lib.hid HA
 have n0:(n:Int)≤100000000:=by omega
 have HH:=Lib.hid (And.intro hn (And.intro hcs hok))
 clear hcap hn hN hcs hok h1 h2 h3
 go_enter Tryz.func55,Tryz.ntmps55
 go_wp2
 go_loopg [5,6] n (fun gk s5 s6 wr=> ∃(i:Nat) (acc:List Nat),s6= .int .i64 i∧i≤n∧n-i≤gk∧wr.cell? ⟨w.heap.size,0,none⟩=some (.slice a N ca)∧Hid (acc++ofE T s i (n-i)=elemsE T s∧acc.length≤8*i∧KGrow wr (w.heap.size+1) 121 4 s5 acc.length (rv acc)∧Ux.Touch (fun _=>False) w wr∧w.heap.size+1≤wr.heap.size))
 case atStart=>
  exact ⟨0,[],rfl,Nat.zero_le _,by omega,by simp [Ux.cell_newg],Lib.hid ⟨by unfold elemsE;rw [HH.out.1];rfl,by simp,KGrow.nil _ _ _ _,(Ux.Touch.refl _ _).alloc _,by simp⟩⟩
 case round=>
  obtain ⟨i,acc,rfl,hin,hig,hb,HI⟩:=hrel
  by_cases h0:i=n
  ·subst h0
   clear hb
   go_wp2
   go_returns
   have e:=HI.out.1
   rw [←HH.out.1,Ux.ofE_end (Nat.le_refl _),List.append_nil] at e
   rw [←e]
   exact ⟨_,rfl,⟨RRow.of_grow rfl HI.out.2.2.1,capOk_grow HI.out.2.2.1,fun g hg=>Ux.own_lt HI.out.2.2.1.1 g hg⟩,fun b hb=>by have:=HI.out.2.2.1.2 b hb;omega,HI.out.2.2.2.1⟩
  ·obtain ⟨g',rfl⟩: ∃g',gk=g'+1:=⟨gk-1,by omega⟩
   have i0:(i:Int)<n:=by omega
   have hil:i<s.length:=by have:=HH.out.1;omega
   have hp:=Ux.atE_pos T s i hil
   have hq:=Ux.atE_ok HH.out.2.2 (fun c hc=>by have:=HH.out.2.1 c hc;unfold cp raw at this;omega) hil
   have hstep:=Ux.ofE_step (E:=T) hil
   rw [HH.out.1] at hstep
   obtain ⟨l,hl1⟩: ∃l,(atE T s i).1=l:=⟨_,rfl⟩
   obtain ⟨k,hk1⟩: ∃k,(atE T s i).2=k:=⟨_,rfl⟩
   have hat:=HA.out wr i HI.out.2.2.2.1 (by omega)
   rw [hl1,hk1] at hat hstep
   rw [hk1,HH.out.1] at hp
   rw [hl1] at hq
   have HX:=Lib.hid (And.intro hp (And.intro hq hstep))
   have HAT:=Lib.hid hat
   have k0:(i:Int)+k≤n:=by omega
   clear hp hq hstep hl1 hk1 hat h0 hil
   go_wp2_with (go_at_call 105;fail)
   refine HAT.out.mono ?_
   rintro e w2 ⟨u,rfl,hu,T2⟩
   have hn2:=HI.out.2.1
   have hl8:=HX.out.2.1.1
   obtain ⟨r,w3,hrun,hG2,hT3⟩:=(HI.out.2.2.1.touch0 T2).app (P:=Tryz.prog) 50 32 _ Tryz.underlying50 infoRE rfl (by omega) u l.length (rv l) hu.src (by have:=T2.size;have:=HI.out.2.2.2.2;omega) (by simp only [maxLen];omega) (by omega)
   have hb2:=hT3.cell (T2.cell hb (fun f=>f)) (fun h=>by have h1:w.heap.size+1≤w.heap.size:=h.1;omega)
   have hsz3:=hT3.size
   have HR:=Lib.hid (And.intro hrun (And.intro hG2 (And.intro hT3 (And.intro T2 hsz3))))
   clear hrun hG2 hT3 T2 hu hn2 hl8 hb hsz3
   go_wp2_with (at_builtin;refine Ux.wpList_app (v1:=u5) (x1:=u) rfl _ _ _ _ rfl rfl rfl (HR.out.1 _) ?_)
   go_roundg g'
   case measure=>omega
   case rel=>
    have hp:=HX.out.1
    have hl8:=HX.out.2.1.1
    have hn2:=HI.out.2.1
    refine ⟨i+k,acc++l,by congr 1,by omega,by omega,hb2,Lib.hid ⟨?_,by simp;omega,by rw [rv_app,List.length_append];exact HR.out.2.1,?_,?_⟩⟩
    ·rw [←HI.out.1,HX.out.2.2,List.append_assoc]
    ·exact Ux.Touch.own (HI.out.2.2.2.1.trans HR.out.2.2.2.1 fun _ _ f=>f) (Nat.le_succ _) HR.out.2.2.1
    ·have:=HR.out.2.2.2.1.size
     have:=HR.out.2.2.2.2
     have:=HI.out.2.2.2.2
     omega
theorem rofs_ (v vs:Value) (T:List Ent) (s:List Nat) (A:Nat→Prop) (w:World) (hT:RRows w A v T) (hs:SView w vs s) (hcap:capOk vs) (hcs: ∀c∈s,cp c∨raw c) (hok:okT T) (h1:T.length≤1000000) (h2:s.length≤100000000):
 Calls Tryz.prog 55 #[.agg #[v],vs] w fun e w'=> ∃u,e= .returned u∧RRow w' u (elemsE T s)∧(∀b,u.ownBlock=some b→w.heap.size≤b)∧Ux.Touch (fun _=>False) w w':=
 (rofsK_ v vs T s A w hT hs hcap hcs hok h1 h2).mono fun e w' ⟨u,h,hr,ho,t⟩=>⟨u,h,hr.1,ho,t⟩
end Go.Proofs.YtfccjaboicpohaaGreatDoor
namespace Go.Proofs.YtfccjaboicpohaaGreatDoor
open Go.RowKit
open Ux (Row Ent sv iv elemsE okT)
open Ux.Sign (cp raw signs)
theorem capOk_row {w:World} {lo:Nat} {t:TypeId} {v:Value} {xs:List Value} (h:Row w lo t v xs):capOk v:=by
 rcases h.cases with ⟨rfl,_⟩|⟨g,c,rfl,hc,_⟩
 ·exact Nat.le_refl _
 ·exact hc
set_option maxHeartbeats 4000000 in
set_option maxRecDepth 100000 in
theorem relements_ (v:Value) (T:List Ent) (A:Nat→Prop) (s:ByteArray) (w:World) (hT:RRows w A v T) (hok:okT T) (h1:T.length≤1000000) (h2:s.size≤100000000):
 Calls Tryz.prog 177 #[.agg #[v],.string s] w fun e w'=> ∃u,e= .returned u∧RRow w' u (elemsE T (signs s.data.toList))∧(∀b,u.ownBlock=some b→w.heap.size≤b)∧Ux.Touch (fun _=>False) w w':=by
 have hTT:=hT
 obtain ⟨_,a,ca,rfl,_,_⟩:=hT
 obtain ⟨N,hN⟩: ∃N,T.length=N:=⟨_,rfl⟩
 rw [hN] at hTT⊢
 have HR:=Lib.hid fun W (T1:Ux.Touch (fun _=>False) w W)=>rsigns_ s W (by omega)
 have HO:=Lib.hid fun W (u:Value) (T1:Ux.Touch (fun _=>False) w W) (hu:Row W 0 3 u (iv (sv (signs s.data.toList))))=>rofs_ (.slice a N ca) u T (signs s.data.toList) A W (hTT.touch0 T1) (IView.row hu).s (capOk_row hu) (fun c hc=>Ux.Sign.good_all (Ux.Sign.good_signs _) c hc) hok h1 (by have:=signs_le s.data.toList;have e:s.data.toList.length=s.size:=rfl;omega)
 clear hTT hN hok h1 h2
 go_enter Tryz.func177,Tryz.ntmps177
 have hb:(w.alloc (Obj.cells #[Value.slice a N ca] 36)).cell? ⟨w.heap.size,0,none⟩=some (.slice a N ca):=by rw [Ux.cell_newg];rfl
 have hT1:Ux.Touch (fun _=>False) w (w.alloc (Obj.cells #[Value.slice a N ca] 36)):=(Ux.Touch.refl _ _).alloc _
 have HB:=Lib.hid fun W (T:Ux.Touch (fun _=>False) (w.alloc (Obj.cells #[Value.slice a N ca] 36)) W)=>T.cell hb (fun f=>f)
 have H1:=Lib.hid hT1
 clear hT1
 go_upto_region 1 with (fail)
 refine Ux.wpr (fun _ w'=>w'.cell? ⟨w.heap.size,0,none⟩=some (.slice a N ca)) (.h false [0] (.q [1] (.e 2 true false (.e 3 false false (.line [4]))))) ?_;repeat ((with_reducible refine Ux.qg ?_);refine Ux.qu ?_)
 clear hb
 go_wp2_with (go_at_call 173;fail)
 refine (HR.out _ H1.out.drew).mono ?_
 rintro e w2 ⟨u,rfl,hu,T2⟩
 have H2:=Lib.hid (And.intro hu T2)
 have hb2:=HB.out w2 ((Ux.Touch.refl (fun _=>False) _).drew.trans T2 fun _ _ f=>f)
 clear hu T2
 go_wp2_with (fail)
 refine ⟨hb2,?_⟩
 repeat ((with_reducible refine Ux.qg ?_);refine Ux.qu ?_)
 go_wp2_with (go_at_call 55;fail)
 refine (HO.out _ u (H1.out.drew.trans H2.out.2 fun _ _ f=>f) (H2.out.1.mono (Nat.zero_le _))).mono ?_
 rintro e w3 ⟨u3,rfl,hu3,ho3,T3⟩
 have H3:=Lib.hid (And.intro hu3 (And.intro ho3 T3))
 clear hu3 ho3 T3 hb2
 go_wp2_with (fail)
 repeat ((with_reducible refine Ux.qg ?_);refine Ux.qu ?_)
 go_wp2
 go_returns
 have TT:=H1.out.drew.trans H2.out.2 fun _ _ f=>f
 exact ⟨_,rfl,H3.out.1,fun b hb=>Nat.le_trans TT.size (H3.out.2.1 b hb),TT.trans H3.out.2.2 fun _ _ f=>f⟩
end Go.Proofs.YtfccjaboicpohaaGreatDoor
