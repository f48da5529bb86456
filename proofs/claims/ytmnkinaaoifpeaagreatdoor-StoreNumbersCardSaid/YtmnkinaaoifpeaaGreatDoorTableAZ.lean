/- A part of the proof that the statement holds for every input that it names. No other condition. -/
import Derived.Test.YtmnkinaaoifpeaaGreatDoorUxTabAZ
import Derived.Test.YtmnkinaaoifpeaaGreatDoorRootAZ
import Derived.Test.YtmnkinaaoifpeaaGreatDoorSignAZ
import Derived.Test.YtmnkinaaoifpeaaGreatDoorTrieAZ
import Derived.Deep.Heap
set_option linter.unusedVariables false
set_option linter.unusedSimpArgs false
namespace Go.Proofs.YtmnkinaaoifpeaaGreatDoor
open Go.RowKit
open Ux (Row iv sv Ent k3 kl3 okS okE ev TabMap Tells okT LongInv longPut LongIs PairsInv RangeIs PGrow pv)
open Ux.Trie (fnd Pr)
def TableAt (w:World) (B mb:Nat) (E:List Ent):Prop:=
 TM w mb E∧∃t ks f,w.heap[B]? =some (.cells #[.map (some mb),.pointer (some ⟨t,0,none⟩)] 274 (0,0))∧TrieAt w t ks f∧LongIs E f
def lgV (lg:Int→Option Nat):Int→Option Value:=fun c=>match lg c with
 |some n=>some (.int .i64 (n:Int))
 |none=>none
theorem TrieAt.touch0 {w w':World} {t:Nat} {ks:List Int} {f:Int→Int} (h:TrieAt w t ks f) (ht:Ux.Touch (fun _=>False) w w'):TrieAt w' t ks f:=by
 obtain ⟨bb,c,am,G,h1,h2,h3,h4,h5⟩:=h
 exact ⟨bb,c,am,G,ht.cell h1 (fun f=>f),ht.cell h2 (fun f=>f),fun j v hv=>ht.cell (h3 j v hv) (fun f=>f),h4.touch ht (fun f=>f),h5⟩
theorem TableAt.touch0 {w w':World} {B mb:Nat} {E:List Ent} (h:TableAt w B mb E) (ht:Ux.Touch (fun _=>False) w w'):TableAt w' B mb E:=by
 obtain ⟨h1,t,ks,f,h2,h3,h4⟩:=h
 exact ⟨h1.touch0 ht,t,ks,f,ht.heap h2 (fun f=>f),h3.touch0 ht,h4⟩
theorem same_int (d c:Int):(Lit.int .i64 d).sameKey (.int .i64 c)=decide (d=c):=by
 by_cases h:d=c
 ·subst h
  rw [WideAt.sameKey_self (by trivial)]
  simp
 ·cases hs:(Lit.int .i64 d).sameKey (.int .i64 c) with
  |false=>simp [h]
  |true=>
   have:=WideAt.sameKey_eq hs
   cases this
   exact absurd rfl h
theorem infoP:(Tryz.prog.info? 269).map (fun i=>(i.zero,i.size,i.bytes))=some (some (.agg #[.int .i64 0,.int .i64 0]),2,16):=by kernel_rfl
theorem lgV_at {lg:Int→Option Nat} {kl:Lit} {v:Value} (h:Ux.intF (lgV lg) kl=some v): ∃c n,kl= .int .i64 c∧lg c=some n∧v= .int .i64 (n:Int):=by
 unfold Ux.intF at h
 split at h
 ·rename_i c
  unfold lgV at h
  cases hl:lg c with
  |none=>rw [hl] at h;cases h
  |some m=>rw [hl] at h;exact ⟨_,m,rfl,hl,(Option.some.inj h).symm⟩
 ·cases h
set_option maxHeartbeats 8000000 in
set_option maxRecDepth 100000 in
theorem tbuild_ (mb:Nat) (E:List Ent) (w:World) (hT:TM w mb E) (hE:E.length≤600):
 Calls Tryz.prog 117 #[.map (some mb)] w fun e w'=> ∃B,e= .returned (.pointer (some ⟨B,0,none⟩))∧w.heap.size≤B∧TableAt w' B mb E∧Ux.Touch (fun _=>False) w w':=by
 obtain ⟨h0,f,h1,h2⟩:=hT
 have HH:=Lib.hid (And.intro h0 (And.intro h1 (And.intro h2 hE)))
 obtain ⟨q,hq⟩: ∃q,w.heap.size=q:=⟨_,rfl⟩
 have hmq: ¬mb=q:=by have:=h1.lt;omega
 clear h0 h1 h2 hE
 have hmm:= @run_makeMap Tryz.prog
 go_enter Tryz.func117,Tryz.ntmps117
 have e1:(w.alloc (.map #[] 0)).heap.size=q+1:=by rw [World.size_alloc,hq]
 have HM0:=Lib.hid (hq▸Ux.MapIs.made w Tryz.prog 3:Ux.MapIs Tryz.prog 3 (w.alloc (.map #[] 0)) q 0 fun _=>none)
 go_wp2_with (at_range;refine Ux.wpList_rangeM rfl _ 196 rfl 199 197 keyedS Tryz.underlying196 mb E.length f rfl (HH.out.2.1.touch ((Ux.Touch.refl (fun _=>False) w).alloc _) (fun f=>f)) ?_;rw [e1];intro w2 cnt hr ht hs;have HR:=Lib.hid (And.intro hr (And.intro ht hs));clear hr ht hs)
 go_frame
 have T0:=((Ux.Touch.refl (fun _=>False) w).alloc (.map #[] 0)).trans HR.out.2.1 fun _ _ f=>f
 go_loopg [] cnt (fun g wr=> ∃(left:Lit→Bool) (c2:Nat) (lg:Int→Option Nat),c2≤g∧c2≤cnt∧Hid (RangeIs Tryz.prog 199 wr mb (q+1) E.length f left c2∧Ux.MapIs Tryz.prog 3 wr q (cnt-c2) (Ux.intF (lgV lg))∧LongInv E left lg∧Tells 202 wr f E∧Ux.Touch (fun _=>False) w wr))
 case atStart=>
  refine ⟨_,cnt,fun _=>none,Nat.le_refl _,Nat.le_refl _,Lib.hid ⟨HR.out.1,?_,LongInv.start fun e he=> ?_,HH.out.2.2.1.touch T0 (fun _ _ _ f=>f),T0⟩⟩
  ·have h:=(HM0.out.touch HR.out.2.1 (fun f=>f)).mono (Nat.zero_le (cnt-cnt))
   have:(fun _:Lit=>(none:Option Value))=Ux.intF (lgV fun _=>none):=by
    funext kl
    unfold Ux.intF lgV
    split<;>rfl
   rw [←this]
   exact h
  ·obtain ⟨v,hv,_⟩:=HH.out.2.2.1.1 e he
   rw [hv];rfl
 case round=>
  obtain ⟨left,c2,lg,hc1,hc2,HI⟩:=hrel
  by_cases hc0:c2=0
  ·subst hc0
   obtain ⟨r2,hr2⟩: ∃r,wr.heap.size=r:=⟨_,rfl⟩
   have hqr:q<r2:=by have:=HI.out.2.1.lt;omega
   go_wp2_with (first
    |(at_next;refine Ux.wpList_nextM rfl _ rfl 199 keyedS mb (q+1) E.length f left 0 rfl HI.out.1 ?_ ?_;rotate_left;(intro _ _ _ _ c4 _ _ _ _ h4;exact absurd h4 (Nat.not_lt_zero _));intro _ hleft;have HL:=Lib.hid hleft;clear hleft)
    |(at_range;refine Ux.wpList_rangeM rfl _ 265 rfl 3 3 keyed3 Tryz.underlying265 q (cnt-0) (Ux.intF (lgV lg)) rfl HI.out.2.1 ?_;try rw [hr2]
      intro w5 cnt2 hr ht hs;have HR2:=Lib.hid (And.intro hr (And.intro ht hs));clear hr ht hs))
   have hc600:cnt2≤600:=by have h1:=HR2.out.1.cnt_le;have h2:=HR.out.1.cnt_le;have h3:=HH.out.2.2.2;omega
   go_loopg [6] cnt2 (fun g s6 wr=> ∃(left2:Lit→Bool) (c2:Nat) (l:List Pr),c2≤g∧l.length+c2≤cnt2∧Hid (RangeIs Tryz.prog 3 wr q r2 (cnt-0) (Ux.intF (lgV lg)) left2 c2∧PairsInv lg (fun c=>left2 (.int .i64 c)) l∧PGrow wr (r2+1) 269 s6 l∧Ux.Touch (fun _=>False) w wr))
   case atStart=>
    refine ⟨_,cnt2,[],Nat.le_refl _,by simp,Lib.hid ⟨HR2.out.1,PairsInv.start fun c hc=> ?_,PGrow.nil _ _ _,HI.out.2.2.2.2.trans HR2.out.2.1 fun _ _ f=>f⟩⟩
    show (lgV lg c).isSome=true
    unfold lgV
    cases hl:lg c with
    |none=>rw [hl] at hc;cases hc
    |some n=>rfl
   case round=>
    obtain ⟨left2,c2,l,hc1,hc2,HJ⟩:=hrel
    by_cases hc0:c2=0
    ·subst hc0
     go_wp2_with (first|(at_next;refine Ux.wpList_nextM rfl _ rfl 3 keyed3 q r2 (cnt-0) (Ux.intF (lgV lg)) left2 0 rfl HJ.out.1 ?_ ?_;rotate_left;(intro _ _ _ _ c4 _ _ _ _ h4;exact absurd h4 (Nat.not_lt_zero _));intro _ hleft;have HL2:=Lib.hid hleft;clear hleft)|(go_at_call 159;fail))
     obtain ⟨hLI,hany⟩:=Ux.long_is HI.out.2.2.1 HL.out HJ.out.2.1 fun c=>HL2.out _
     have hap:=HJ.out.2.1.2.2
     have hPA:PrsAt wr u6 l:=HJ.out.2.2.1.is
     refine (build7 u6 l wr hPA (by omega)).mono ?_
     rintro e w7 ⟨T7,hS⟩
     rcases hS with ⟨h,_⟩|⟨_,h,_⟩|⟨_,_,t,ks,rfl,hTr,_⟩
     ·rw [hany] at h;cases h
     ·exact absurd hap h
     have HE:=Lib.hid (And.intro hLI (And.intro T7 hTr))
     clear hLI hany hap hPA T7 hTr
     go_wp2
     go_ret
     have T:Ux.Touch (fun _=>False) w7 (w7.alloc (.cells #[.map (some mb),.pointer (some ⟨t,0,none⟩)] 274)):=(Ux.Touch.refl _ w7).alloc _
     have T2:=(HJ.out.2.2.2.trans HE.out.2.1 fun _ _ f=>f).trans T fun _ _ f=>f
     exact ⟨w7.heap.size,rfl,by have:=(HJ.out.2.2.2.trans HE.out.2.1 fun _ _ f=>f).size;omega,⟨TabMap.touch0 ⟨HH.out.1,f,HH.out.2.1,HH.out.2.2.1⟩ T2,t,ks,fnd l,heap_alloc_new w7 _,HE.out.2.2.touch0 T,HE.out.1⟩,T2⟩
    ·obtain ⟨g',rfl⟩: ∃g',gk=g'+1:=⟨gk-1,by omega⟩
     go_upto_region 11 with (at_next;refine Ux.wpList_nextM rfl _ rfl 3 keyed3 q r2 (cnt-0) (Ux.intF (lgV lg)) left2 c2 rfl HJ.out.1 (fun h _=>absurd h hc0) ?_;intro key v kl w3 c3 hkey hlk hf hrg hlt ht hsz hen;obtain ⟨c,n,rfl,hlg,rfl⟩:=lgV_at hf;have hcb:=HI.out.2.2.1.2 c n hlg;have hkv:=keyed3.inj hkey (keyI (c:=c) (by omega) (by omega));subst hkv;have HN:=Lib.hid (And.intro hlk (And.intro hlg (And.intro hrg (And.intro hlt (And.intro ht hsz)))));clear hkey hlk hf hrg hlt ht hsz hlg)
     have hl6:l.length≤600:=by omega
     obtain ⟨s7,w4,hrun,hP4,hT4⟩:=(HJ.out.2.2.1.touch HN.out.2.2.2.2.1 (fun b hb e=>by omega)).app (P:=Tryz.prog) 267 16 _ Tryz.underlying267 infoP rfl c (n:Int) (by have:=HN.out.2.2.1.lt;omega) (by unfold maxLen;omega) (by omega)
     have H4:=Lib.hid (And.intro hP4 hT4)
     have HRUN:=Lib.hid hrun
     clear hrun hP4 hT4 hl6
     go_wp2_with (at_builtin;refine Ux.wpList_app (v1:=u6) (x1:= .slice (some ⟨w3.heap.size,0,none⟩) 1 1) rfl _ _ _ _ rfl rfl rfl (HRUN.out _) ?_)
     go_roundg g'
     case measure=>omega
     case rel=>
      have hlt:=HN.out.2.2.2.1
      have hr2:=HN.out.2.2.1
      have hlt2:=hr2.lt
      refine ⟨_,c3,l++ [(c,(n:Int))],by omega,by simp;omega,Lib.hid ⟨hr2.touch H4.out.2 (fun h=>by omega) (fun h=>by omega),HJ.out.2.1.step HN.out.2.1 HN.out.1 fun d=>by simp only [same_int],H4.out.1,?_⟩⟩
      exact (HJ.out.2.2.2.trans HN.out.2.2.2.2.1 fun i hi e=>by omega).trans H4.out.2 fun i hi e=>by omega
  ·obtain ⟨g',rfl⟩: ∃g',gk=g'+1:=⟨gk-1,by omega⟩
   go_wp2_with (at_next;refine Ux.wpList_nextM rfl _ rfl 199 keyedS mb (q+1) E.length f left c2 rfl HI.out.1 (fun h _=>absurd h hc0) ?_;intro key v kl w3 c3 hkey hlk hf hrg hlt ht hsz hen;have HN:=Lib.hid (And.intro hkey (And.intro hlk (And.intro hf (And.intro hrg (And.intro hlt (And.intro ht hsz))))));obtain ⟨e,he,hke⟩:=HI.out.2.2.2.1.2 kl v hf;subst hke;have hok:=(HH.out.1.2 e he).1;obtain ⟨x,y,z,hk3⟩:=k3_is hok;have hkv:=keyedS.inj hkey (keyS hok);rw [hk3] at hkv;have hkv:key= .agg #[.int .i64 x,.int .i64 y,.int .i64 z]:=hkv;subst hkv;have HE:=Lib.hid (And.intro he (And.intro hok hk3));clear hkey hlk hf hrg hlt ht hsz he hok hk3)
   refine (ssigns3 e.1 HE.out.2.1 x y z HE.out.2.2 _).mono ?_
   rintro e2 w4 ⟨v4,rfl,hR4,T4⟩
   obtain ⟨a4,cp4,rfl,hcell⟩:=hR4.is
   obtain ⟨c,hc⟩: ∃c,Ux.first e=c:=⟨_,rfl⟩
   have hc1:=Ux.first_lt HE.out.2.1
   rw [hc] at hc1
   have hget:e.1[0]? =some c:=by
    rw [←hc]
    unfold Ux.first
    match he1:e.1,HE.out.2.1.1 with
    |_::_,_=>rfl
   obtain ⟨g4,rfl,_,hcg⟩:=hcell 0 _ (Ux.iv_get (Ux.sv_get hget))
   obtain ⟨n4,hn4⟩: ∃n,(iv (sv e.1)).length=n:=⟨_,rfl⟩
   have hn5:e.1.length=n4:=by rw [←hn4,Ux.iv_length,Ux.sv_length]
   rw [hn4]
   have hn6:n4≤3:=by have:=HE.out.2.1.2.1;omega
   have c0:(c:Int)<1114368:=by omega
   have n40:(n4:Int)≤3:=by omega
   have n41:(0:Int)<n4:=by have:=HE.out.2.1.1;omega
   obtain ⟨m0,hm0⟩: ∃m0,(lg c).getD 0=m0:=⟨_,rfl⟩
   have hm3:(m0:Int)≤3:=by
    rw [←hm0]
    cases hl:lg c with
    |none=>simp
    |some m=>have:=(HI.out.2.2.1.2 c m hl).2.2.2;simp;omega
   have T34:Ux.Touch (fun i=>i=q+1) wr w4:=(HN.out.2.2.2.2.2.1.trans ((Ux.Touch.refl (fun _=>False) _).alloc _) fun _ _ f=>f.elim).trans T4 fun _ _ f=>f.elim
   have hM4:=HI.out.2.1.touch T34 (by omega)
   have hlook: ∀w',Ux.Touch (fun _=>False) w4 w'→(Instr.lookup 265 (.map (some q)) (.int .i64 (c:Int)) false).run Tryz.prog w'= .ok (.int .i64 (m0:Int)) w':=fun w' T=>by
    have h:=(hM4.touch T (fun f=>f)).look keyed3 Tryz.underlying265 (zero3 w') (keyI (c:=(c:Int)) (by omega) (by omega))
    have e1:((Ux.intF (lgV lg) (.int .i64 (c:Int))).getD (.int .i64 0))= .int .i64 (m0:Int):=by
     show ((lgV lg c).getD _)=_
     unfold lgV
     rw [←hm0]
     cases lg c<;>rfl
    rw [e1] at h
    exact h
   have HLK:=Lib.hid hlook
   have T340:Ux.Touch (fun _=>False) w3 w4:=((Ux.Touch.refl (fun _=>False) _).alloc _).trans T4 fun _ _ f=>f
   have HX5:=Lib.hid T340
   clear T340
   have HX4:=Lib.hid (And.intro hM4 (And.intro T34 (And.intro hc (And.intro hn5 (And.intro hm0 hcg)))))
   clear hlook hM4 T34 hc hget hn4 hn5 hm0 hR4 T4 hcell
   go_upto_region 6 with (fail)
   have hcg:=HX4.out.2.2.2.2.2
   refine Ux.wpr (fun _ w'=>w'.cell? ⟨g4,0,none⟩=some (.int .i64 (c:Int))) (.q [0,1,2,4,5,6,9,10] (.h false [3,7] (.e 8 true false (.q [11] (.line [12]))))) ?_;repeat ((with_reducible refine Ux.qg ?_);refine Ux.qu ?_)
   clear hcg
   go_wp2_with (at_lookup;refine Ux.wpList_look rfl _ _ 265 rfl rfl rfl (HLK.out _ ((Ux.Touch.refl (fun _=>False) w4).drew)) ?_)
   refine ⟨(Ux.Touch.refl (fun _=>False) w4).drew.cell HX4.out.2.2.2.2.2 (fun f=>f),?_⟩
   repeat ((with_reducible refine Ux.qg ?_);refine Ux.qu ?_)
   have hc4:=HR.out.1.cnt_le
   have hc5:=HH.out.2.2.2
   go_wp2_with (at_mapUpdate;refine Ux.wpList_put (key:= .int .i64 (c:Int)) (val:= .int .i64 (max (m0:Int) (n4:Int))) rfl _ _ _ 265 rfl rfl rfl rfl (HX4.out.1.touch ((Ux.Touch.refl (fun _=>False) w4).drew) (fun f=>f)) keyed3 Tryz.underlying265 (by unfold maxLen;omega) (keyI (by omega) (by omega)) ?_;intro w5 hm5 ht5;have H5:=Lib.hid (And.intro hm5 ht5);clear hm5 ht5)
   go_roundg g'
   case measure=>omega
   case rel=>
    have hlt:=HN.out.2.2.2.2.1
    have hrg:=HN.out.2.2.2.1
    have T45:Ux.Touch (fun i=>i=q) w4 w5:=((Ux.Touch.refl (fun _=>False) w4).drew.mono (fun _ _ f=>f.elim)).trans H5.out.2 fun _ _ h=>h
    have T35:Ux.Touch (fun i=>i=q) w3 w5:=(HX5.out.mono (fun _ _ f=>f.elim)).trans T45 fun _ _ h=>h
    have T15:Ux.Touch (fun i=>q≤i) wr w5:=(HX4.out.2.1.mono (fun i _ h=>by omega)).trans T45 fun i _ h=>by omega
    have TW:Ux.Touch (fun _=>False) w w5:=HI.out.2.2.2.2.trans T15 fun i hi h=>by omega
    have hfn:(fun x=>if x=(c:Int) then some (Value.int .i64 (max (m0:Int) (n4:Int))) else lgV lg x)=lgV (longPut lg e):=by
     funext x
     unfold longPut lgV
     rw [HX4.out.2.2.1]
     by_cases hx:x=(c:Int)
     ·subst hx
      rw [if_pos rfl]
      show _=match (if (c:Int)=(c:Int) then some (max ((lg (c:Int)).getD 0) e.1.length) else lg (c:Int)) with
       |some n=>some (Value.int .i64 (n:Int))
       |none=>none
      rw [if_pos rfl,HX4.out.2.2.2.2.1,HX4.out.2.2.2.1]
      show some (Value.int .i64 _)=some (Value.int .i64 _)
      congr 2
      omega
     ·rw [if_neg hx]
      show _=match (if x=(c:Int) then some (max ((lg x).getD 0) e.1.length) else lg x) with
       |some n=>some (Value.int .i64 (n:Int))
       |none=>none
      rw [if_neg hx]
    have hm:=H5.out.1.intF
    rw [hfn] at hm
    refine ⟨_,c3,longPut lg e,by omega,by omega,Lib.hid ⟨hrg.touch T35 (fun h=>by omega) (fun h=>by omega),hm.mono (by omega),HI.out.2.2.1.step HH.out.1 HE.out.1,HH.out.2.2.1.touch TW (fun _ _ _ f=>f),TW⟩⟩
end Go.Proofs.YtmnkinaaoifpeaaGreatDoor
namespace Go.Proofs.YtmnkinaaoifpeaaGreatDoor
open Go.RowKit
open Ux (Row iv sv Ent k3 kl3 okS okE ev implE eMk)
open Ux.Sign (cp raw)
instance (c:Nat):Decidable (cp c):=inferInstanceAs (Decidable (_∨_))
instance (c:Nat):Decidable (raw c):=inferInstanceAs (Decidable (_∧_))
def isI (c:Int):Bool:=decide ((0≤c∧c<55296)∨(57344≤c∧c<1114112)∨(1114240≤c∧c≤1114367))
theorem isI_nat (c:Nat):isI (c:Int)=decide (cp c∨raw c):=by
 unfold isI cp raw
 rw [decide_eq_decide]
 omega
set_option maxHeartbeats 2000000 in
theorem usign_ (c:Int) (w:World):Calls Tryz.prog 253 #[.int .i64 c] w fun e w'=>e= .returned (.bool (isI c))∧w'=w:=by
 go_enter Tryz.func253,Tryz.ntmps253
 go_wp2
 all_goals (go_ret;refine ⟨?_,rfl⟩)
 all_goals refine congrArg (fun b=>Ending.returned (Value.bool b)) ?_
 all_goals (unfold isI;rw [Bool.eq_iff_iff];simp;try omega)
theorem implN (c:Nat) (h:c<1114368):(64256+(c:Int)/32768=(64256+c/32768:Nat))∧bits .or .i64 32768 (bits .and .i64 (c:Int) 32767)=(32768+c % 32768:Nat):=by
 refine ⟨by omega,?_⟩
 have hw: ∀n:Nat,n<65536→IntKind.i64.wrap (n:Int)=n:=fun n hn=>by rw [IntKind.wrap_i64];omega
 have e3:BitVec.ofInt 64 (32767:Int)=BitVec.ofNat 64 32767:=rfl
 have hand:bits .and .i64 (c:Int) 32767=(c % 32768:Nat):=by
  show IntKind.i64.wrap ((BitVec.ofInt 64 (c:Int)&&&BitVec.ofInt 64 (32767:Int)).toNat:Nat)=_
  have e1:(BitVec.ofInt 64 (c:Int)).toNat=c:=by rw [BitVec.toNat_ofInt];omega
  have e2:(BitVec.ofInt 64 (32767:Int)).toNat=2^15-1:=rfl
  rw [BitVec.toNat_and,e1,e2,Nat.and_two_pow_sub_one_eq_mod]
  exact hw _ (by omega)
 rw [hand]
 show IntKind.i64.wrap ((BitVec.ofInt 64 (32768:Int)|||BitVec.ofInt 64 ((c % 32768:Nat):Int)).toNat:Nat)=_
 have e1:(BitVec.ofInt 64 ((c % 32768:Nat):Int)).toNat=c % 32768:=by rw [BitVec.toNat_ofInt];omega
 have e2:(BitVec.ofInt 64 (32768:Int)).toNat=32768:=rfl
 rw [BitVec.toNat_or,e1,e2]
 have:=Nat.shiftLeft_add_eq_or_of_lt (b:=c % 32768) (i:=15) (by omega) 1
 rw [Nat.shiftLeft_eq] at this
 rw [←show 1*2^15=32768 by rfl,←this]
 exact hw _ (by omega)
set_option maxHeartbeats 2000000 in
theorem impl_ (c:Nat) (hc:cp c∨raw c) (h:c<1114368) (w:World):Calls Tryz.prog 250 #[.int .i64 (c:Int)] w fun e w'=>e= .returned (.slice (some ⟨w.heap.size,0,none⟩) 2 2)∧w'=w.alloc (.cells (ev (implE c)).toArray 202):=by
 have hs:isI (c:Int)=true:=by rw [isI_nat];exact decide_eq_true hc
 have h0:(0:Int)≤c:=by omega
 have h1:(c:Int)<1114368:=by omega
 go_enter Tryz.func250,Tryz.ntmps250
 go_wp2_with (go_at_call 253;refine (usign_ _ _).mono ?_;rintro e w' ⟨rfl,rfl⟩)
 refine (of_ (64256+c/32768) 32 2 _ _ _ (implN c h).1 rfl rfl false (by omega) (by omega) (by omega) _).mono ?_
 rintro e w2 ⟨rfl,rfl⟩
 go_wp2_with (go_at_call 114;fail)
 refine (of_ (32768+c % 32768) 32 2 _ _ _ (implN c h).2 rfl rfl false (by omega) (by omega) (by omega) _).mono ?_
 rintro e w3 ⟨rfl,rfl⟩
 go_wp2
 go_ret
 exact ⟨rfl,rfl⟩
def SView (w:World) (v:Value) (s:List Nat):Prop:= ∃a c,v= .slice a s.length c∧∀(j x:Nat),s[j]? =some x→∃g o,a=some ⟨g,o,none⟩∧w.cell? ⟨g,o+j,none⟩=some (.int .i64 (x:Int))
theorem three {α:Type} {A:Array α} (h:A.size=3): ∃x y z,A= #[x,y,z]:=by
 obtain ⟨l⟩:=A
 match l,h with
 | [x,y,z],_=>exact ⟨x,y,z,rfl⟩
theorem k3_next {s:List Nat} {k c:Nat} (h:s.length≤3) (hc:s[k]? =some c):(iv (k3 (s.take k)))[k]? =some (.int .i64 0)∧iv (k3 (s.take (k+1)))=(iv (k3 (s.take k))).set k (.int .i64 ((c:Int)+1)):=by
 have hk:k<s.length:=(List.getElem?_eq_some_iff.1 hc).1
 have hl:(s.take k).length=k:=by simp;omega
 have e3:3-k=(3-(k+1))+1:=by omega
 have e1:k3 (s.take k)=(s.take k).map (fun (c:Nat)=>(c:Int)+1)++0::List.replicate (3-(k+1)) 0:=by
  unfold k3
  rw [hl,e3,List.replicate_succ]
 have hm:((s.take k).map (fun (c:Nat)=>(c:Int)+1)).length=k:=by rw [List.length_map,hl]
 have e2:k3 (s.take (k+1))=(s.take k).map (fun (c:Nat)=>(c:Int)+1)++((c:Int)+1)::List.replicate (3-(k+1)) 0:=by
  unfold k3
  have hl2:(s.take (k+1)).length=k+1:=by simp;omega
  rw [hl2,List.take_add_one,hc]
  simp
 rw [e1,e2]
 refine ⟨Ux.iv_get ?_,?_⟩
 ·rw [List.getElem?_append_right (by omega),hm,Nat.sub_self]
  rfl
 ·unfold iv
  rw [List.map_append,List.map_append,List.set_append_right _ _ (by rw [List.length_map,hm];omega),List.length_map,hm,Nat.sub_self]
  rfl
set_option maxHeartbeats 4000000 in
set_option maxRecDepth 100000 in
theorem key_ (s:List Nat) (h1:1≤s.length) (h3:s.length≤3) (hs: ∀c∈s,cp c∨raw c) (v:Value) (w:World) (hv:SView w v s):
 Calls Tryz.prog 230 #[v] w fun e w'=>e= .returned (.tuple #[.agg (iv (k3 s)).toArray,.bool true])∧Ux.Touch (fun _=>False) w w':=by
 obtain ⟨a,c,rfl,hcell⟩:=hv
 obtain ⟨n,hn⟩: ∃n,s.length=n:=⟨_,rfl⟩
 obtain ⟨A,hA⟩: ∃A,(iv (k3 s)).toArray=A:=⟨_,rfl⟩
 have hA3:A.size=3:=by rw [←hA];simp [Ux.iv_length,Ux.k3_len h3]
 have hA1:A.all (·.oneCell')=true:=by rw [←hA,Array.all_eq_true_iff_forall_mem];exact fun u hu=>Ux.iv_one _ u (by simpa using hu)
 rw [hn,hA]
 have HA:=Lib.hid (And.intro hA3 (And.intro hA1 hA))
 clear hA3 hA1 hA
 have n1:(1:Int)≤n:=by omega
 have n3:(n:Int)≤3:=by omega
 have HH:=Lib.hid (And.intro hs (And.intro hcell hn))
 clear hs hcell hn
 go_enter Tryz.func230,Tryz.ntmps230
 obtain ⟨q,hq⟩: ∃q,w.heap.size=q:=⟨_,rfl⟩
 go_wp2
 go_loopg [18] n (fun g s18 wr=> ∃k:Nat,s18= .int .i64 k∧k+g=n∧Hid (wr.heap[q]? =some (.cells #[.int .i64 0,.int .i64 0,.int .i64 0] 199 (0,0))∧wr.heap[q+1]? =some (.cells (iv (k3 (s.take k))).toArray 199 (0,0))∧Ux.Touch (fun _=>False) w wr))
 case atStart=>
  refine ⟨0,rfl,by omega,Lib.hid ⟨?_,?_,((Ux.Touch.refl (fun _=>False) w).alloc _).alloc _⟩⟩
  ·rw [Ux.alloc_at,if_neg (by rw [World.size_alloc];omega),Ux.alloc_at,if_pos hq.symm]
  ·rw [Ux.alloc_at,if_pos (by rw [World.size_alloc];omega)]
   rfl
 case round=>
  obtain ⟨k,rfl,hk,HI⟩:=hrel
  by_cases hkn:k=n
  ·subst hkn
   have hkt:s.take k=s:=List.take_of_length_le (by have:=HH.out.2.2;omega)
   rw [hkt] at HI
   have HI:=Lib.hid (And.intro HI.out.1 (And.intro (HA.out.2.2▸HI.out.2.1) HI.out.2.2))
   clear hkt
   go_wp2_with (first
    |(refine Ux.is_load 199 rfl ?_;refine wpList_load_row rfl 199 _ rfl (q+1) rfl 199 A (0,0) _ HI.out.2.1 Tryz.underlying199 rfl (by rw [HA.out.1];kernel_rfl) ?_)
    |(refine Ux.is_store 199 rfl ?_;refine wpList_store_row rfl 199 _ _ rfl q A rfl rfl 199 _ HI.out.1 (by rw [HA.out.1];kernel_rfl) (by rw [HA.out.1];rfl) HA.out.2.1 ?_))
   obtain ⟨wE,hwE⟩: ∃wE,World.setRow wr q A=wE:=⟨_,rfl⟩
   rw [hwE]
   have hE:=setRow_heap wr q _ A _ _ HI.out.1
   have T:Ux.Touch (fun _=>False) w wE:=by rw [←hwE];exact HI.out.2.2.setRow (fun h=>by omega) A
   rw [hwE] at hE
   clear hwE
   obtain ⟨x,y,z,hxyz⟩: ∃x y z,A= #[x,y,z]:=three HA.out.1
   have c0:wE.cell? ⟨q,0,none⟩=some x:=by rw [cell_of_row wE q 0 _ _ (0,0) hE,hxyz];rfl
   have c1:wE.cell? ⟨q,1,none⟩=some y:=by rw [cell_of_row wE q 1 _ _ (0,0) hE,hxyz];rfl
   have c2:wE.cell? ⟨q,2,none⟩=some z:=by rw [cell_of_row wE q 2 _ _ (0,0) hE,hxyz];rfl
   refine bodyPost_ret (by simp [results,Tryz.results230,go_sem,c0,c1,c2];try rfl) rfl ?_
   exact ⟨by rw [hxyz],T⟩
  ·obtain ⟨g',rfl⟩: ∃g',gk=g'+1:=⟨gk-1,by omega⟩
   have hkl:k<s.length:=by have:=HH.out.2.2;omega
   have kn:(k:Int)<n:=by omega
   have k0:(0:Int)≤k:=by omega
   obtain ⟨c0,hc0⟩: ∃c,s[k]? =some c:=⟨_,List.getElem?_eq_getElem hkl⟩
   obtain ⟨g4,o4,rfl,hcg⟩:=HH.out.2.1 k c0 hc0
   have hcg:=HI.out.2.2.cell hcg (fun f=>f)
   have hok:=HH.out.1 c0 (List.mem_of_getElem? hc0)
   have hi:isI (c0:Int)=true:=by rw [isI_nat];exact decide_eq_true hok
   have c1:(c0:Int)<1114368:=by unfold cp raw at hok;omega
   have hst:=k3_next (s:=s) h3 hc0
   have hk0:wr.cell? ⟨q+1,k,none⟩=some (.int .i64 0):=by
    rw [cell_of_row wr (q+1) k _ _ (0,0) HI.out.2.1,List.getElem?_toArray]
    exact hst.1
   have hf0:=Ux.frozen_row HI.out.2.1 k
   have HX:=Lib.hid (And.intro hc0 hst)
   clear hc0 hst hok hkl
   go_wp2_with (go_at_call 253;refine (usign_ _ _).mono ?_;rintro e w' ⟨rfl,rfl⟩)
   go_roundg g'
   case measure=>omega
   case rel=>
    refine ⟨k+1,by congr 1,by omega,Lib.hid ⟨?_,?_,?_⟩⟩
    ·rw [Deep.blk_setCell_other _ _ _ _ (by show q≠q+1;omega)]
     exact HI.out.1
    ·rw [Ux.setCell_row HI.out.2.1]
     have e:=HX.out.2.2
     rw [e,←List.setIfInBounds_toArray]
    ·exact HI.out.2.2.setCell (p:=⟨q+1,k,none⟩) (fun h=>by simp only at h;omega) _
end Go.Proofs.YtmnkinaaoifpeaaGreatDoor
namespace Go.Proofs.YtmnkinaaoifpeaaGreatDoor
open Go.RowKit
open Ux (Row iv sv Ent k3 kl3 okS okE ev TabMap Tells okT LongIs implE longE atE findE)
open Ux.Sign (cp raw)
theorem zeroEs: ∀w,(zeroValue 197).run Tryz.prog w= .ok (.slice none 0 0) w:=(zero_of_info (P:=Tryz.prog) (t:=197) (n:=1) (by kernel_rfl)).1
theorem ev_rowA (w:World) (l:List Nat) (n:Nat) (hn:l.length=n):Row (w.alloc (.cells (ev l).toArray 202)) 0 202 (.slice (some ⟨w.heap.size,0,none⟩) n n) (ev l):=by
 refine .inr ⟨w.heap.size,n,_,by rw [Ux.ev_length,hn],Nat.zero_le _,heap_alloc_new w _,by rw [Ux.ev_length,hn];exact Nat.le_refl _,by rw [List.size_toArray,Ux.ev_length,hn];exact Nat.le_refl _,?_⟩
 simp
theorem okS_sub {s:List Nat} (hs: ∀c∈s,cp c∨raw c) {i m:Nat} (h0:0<m) (h3:m≤3) (hm:i+m≤s.length):okS ((s.drop i).take m)∧((s.drop i).take m).length=m∧∀c∈(s.drop i).take m,cp c∨raw c:=by
 have hl:((s.drop i).take m).length=m:=by simp;omega
 have hc: ∀c∈(s.drop i).take m,cp c∨raw c:=fun c hc=>hs c (List.mem_of_mem_drop (List.mem_of_mem_take hc))
 exact ⟨⟨by omega,by omega,fun c h=>by have:=hc c h;unfold cp raw at this;omega⟩,hl,hc⟩
theorem key3_ (s:List Nat) (h1:okS s) (hs: ∀c∈s,cp c∨raw c) (v:Value) (w:World) (hv:SView w v s) (x y z:Int) (hk:k3 s= [x,y,z]):
 Calls Tryz.prog 230 #[v] w fun e w'=>e= .returned (.tuple #[.agg #[.int .i64 x,.int .i64 y,.int .i64 z],.bool true])∧Ux.Touch (fun _=>False) w w':=by
 have:=key_ s h1.1 h1.2.1 hs v w hv
 rw [hk] at this
 exact this
set_option maxHeartbeats 8000000 in
set_option maxRecDepth 100000 in
theorem at_ (B mb:Nat) (E:List Ent) (s:List Nat) (v:Value) (i:Nat) (w:World) (hT:TableAt w B mb E) (hR:Row w 0 3 v (iv (sv s))) (hs: ∀c∈s,cp c∨raw c) (hl:s.length≤1000000000) (hi:i<s.length):
 Calls Tryz.prog 223 #[.pointer (some ⟨B,0,none⟩),v,.int .i64 i] w fun e w'=> ∃u,e= .returned (.tuple #[u,.int .i64 ((atE E s i).2:Nat)])∧Row w' 0 202 u (ev (atE E s i).1)∧Ux.Touch (fun _=>False) w w':=by
 obtain ⟨⟨h0,F,h1,h2⟩,t,ks,f,hB,hTr,hLI⟩:=hT
 obtain ⟨c,hc⟩: ∃c,s[i]? =some c:=⟨_,List.getElem?_eq_getElem hi⟩
 rcases hR with ⟨rfl,h⟩|⟨g,cap,cur,rfl,hg,hh,hc1,hc2,hc3⟩
 ·rw [List.eq_nil_of_length_eq_zero (by rw [←Ux.sv_length,←Ux.iv_length,h];rfl:s.length=0)] at hc
  simp at hc
 rw [Ux.iv_length,Ux.sv_length] at hc1 hc3⊢
 obtain ⟨n,hn⟩: ∃n,s.length=n:=⟨_,rfl⟩
 rw [hn] at hc1 hc3 hi hl⊢
 have hcells: ∀(j x:Nat),s[j]? =some x→w.cell? ⟨g,j,none⟩=some (.int .i64 (x:Int)):=fun j x hj=>Ux.row_cell hh hc3 j _ (Ux.iv_get (Ux.sv_get hj))
 obtain ⟨fc,hfc⟩: ∃fc,f c=fc:=⟨_,rfl⟩
 have hf:=hLI.2 c
 rw [hfc] at hf
 have hcc:=hs c (List.mem_of_getElem? hc)
 have hcb:c<1114368:=by unfold cp raw at hcc;omega
 have f0:=hf.1
 have f3:=hf.2.1
 have n0:(n:Int)≤1000000000:=by omega
 have i0:(i:Int)<n:=by omega
 have hB0:w.cell? ⟨B,0,none⟩=some (.map (some mb)):=by rw [cell_of_row w B 0 _ _ (0,0) hB];rfl
 have hB1:w.cell? ⟨B,1,none⟩=some (.pointer (some ⟨t,0,none⟩)):=by rw [cell_of_row w B 1 _ _ (0,0) hB];rfl
 have hci:=hcells i c hc
 have HG:=Lib.hid fun w' (T:Ux.Touch (fun _=>False) w w')=>by
  have h:=get9 t ks f (c:Int) w' (hTr.touch0 T) (by omega) (by omega) (fun c=>by have:=hLI.2 c;omega) (fun c h=>(hLI.2 c).2.2 h)
  rw [hfc] at h
  exact h
 have HQ:=Lib.hid fun w' (T:Ux.Touch (fun _=>False) w w')=>And.intro (T.cell hB1 (fun f=>f)) (T.cell hci (fun f=>f))
 have HH:=Lib.hid (And.intro h0 (And.intro h1 (And.intro h2 (And.intro hLI (And.intro hc (And.intro hcells (And.intro hs (And.intro hn (And.intro hcc (And.intro hcb hB0))))))))))
 have HF:=Lib.hid hfc
 have hcap:(n:Int)≤cap:=by omega
 have z1:decide ((i:Int)<0)=false:=by simp
 have z2:decide ((n:Int)≤i)=false:=by simp;omega
 have z3:(0:Int)≤i:=by omega
 clear hcb h0 h1 h2 hTr hLI hB hc hh hc3 hcells hfc hf hcc hn hs hi hl hB0
 go_enter Tryz.func223,Tryz.ntmps223
 go_upto_region 3 with (fail)
 refine Ux.wpr (fun _ w'=>w'.cell? ⟨B,1,none⟩=some (.pointer (some ⟨t,0,none⟩))∧w'.cell? ⟨g,i,none⟩=some (.int .i64 (c:Int))) (.q [0,1,2,4,5,6,9,10,11,12] (.h false [3,7] (.e 8 false false (.q [13] (.line [14]))))) ?_;repeat ((with_reducible refine Ux.qg ?_);refine Ux.qu ?_)
 clear hB1 hci
 go_wp2_with (go_at_call 249;fail)
 refine (HG.out _ (Ux.Touch.refl (fun _=>False) w).drew).mono ?_
 rintro e w1 ⟨rfl,rfl⟩
 go_wp2_with (fail)
 repeat ((with_reducible refine Ux.qg ?_);refine Ux.qu ?_)
 go_wp2
 go_loopg [8] 3 (fun g s8 wr=> ∃m:Nat,s8= .int .i64 m∧m≤g∧m≤3∧i+m≤n∧Hid (longE E s i m=longE E s i (min 3 (n-i))∧Ux.Touch (fun _=>False) w wr))
 case atStart=>
  refine ⟨(min fc ((n:Int)-i)).toNat,?_,by omega,by omega,by omega,Lib.hid ⟨?_,(Ux.Touch.refl (fun _=>False) w).drew⟩⟩
  ·congr 1
   omega
  ·have:=Ux.longE_min HH.out.2.2.2.1 HH.out.2.2.2.2.1 (min fc ((n:Int)-i)).toNat (by rw [HF.out,HH.out.2.2.2.2.2.2.2.1];omega)
   rw [HH.out.2.2.2.2.2.2.2.1] at this
   exact this
 case round=>
  obtain ⟨m,rfl,hmg,hm3,hmn,HI⟩:=hrel
  by_cases hm0:m=0
  ·subst hm0
   have hci:=HI.out.2.cell (HQ.out w (Ux.Touch.refl _ w)).2 (fun f=>f)
   go_wp2_with (go_at_call 250;refine (impl_ c HH.out.2.2.2.2.2.2.2.2.1 HH.out.2.2.2.2.2.2.2.2.2.1 _).mono ?_;rintro e w' ⟨rfl,rfl⟩)
   go_returns
   have hA:atE E s i=(implE c,1):=by
    unfold atE
    rw [HH.out.2.2.2.2.2.2.2.1,←HI.out.1,List.getD_eq_getElem?_getD,HH.out.2.2.2.2.1]
    rfl
   rw [hA]
   exact ⟨_,rfl,ev_rowA wr (implE c) 2 rfl,HI.out.2.alloc _⟩
  ·obtain ⟨g',rfl⟩: ∃g',gk=g'+1:=⟨gk-1,by omega⟩
   obtain ⟨k1,k2,k4⟩:=okS_sub HH.out.2.2.2.2.2.2.1 (i:=i) (m:=m) (by omega) hm3 (by rw [HH.out.2.2.2.2.2.2.2.1];omega)
   obtain ⟨x,y,z,hk3⟩:=k3_is k1
   have m0:(0:Int)<m:=by omega
   have m3:(m:Int)≤3:=by omega
   have mn:(i:Int)+m≤n:=by omega
   have HK:=Lib.hid (And.intro k1 (And.intro k2 (And.intro k4 hk3)))
   have hkey:SView wr (.slice (some ⟨g,i,none⟩) m (cap-i)) ((s.drop i).take m):=by
    refine ⟨some ⟨g,i,none⟩,cap-i,by rw [k2],fun j x hj=>⟨g,i,rfl,?_⟩⟩
    have:s[i+j]? =some x:=by
     rw [List.getElem?_take] at hj
     split at hj
     ·rw [List.getElem?_drop] at hj
      exact hj
     ·cases hj
    exact HI.out.2.cell (HH.out.2.2.2.2.2.1 _ _ this) (fun f=>f)
   have HS:=Lib.hid hkey
   clear hkey k1 k2 k4 hk3 hm0
   have hlk: ∀w',Ux.Touch (fun _=>False) w w'→(Instr.lookup 196 (.map (some mb)) (.agg #[.int .i64 x,.int .i64 y,.int .i64 z]) true).run Tryz.prog w'= .ok (.tuple #[(F (kl3 ((s.drop i).take m))).getD (.slice none 0 0),.bool (F (kl3 ((s.drop i).take m))).isSome]) w':=fun w' T=>by
    have h:=(HH.out.2.1.touch T (fun f=>f)).lookOk keyedS Tryz.underlying196 (zeroEs w') (keyS HK.out.1)
    rw [HK.out.2.2.2] at h
    exact h
   have hfind:=Ux.Tells.find HH.out.1 HH.out.2.2.1 HK.out.1
   go_wp2_with (go_at_call 230;fail)
   refine (key3_ _ HK.out.1 HK.out.2.2.1 _ _ HS.out x y z HK.out.2.2.2).mono ?_
   rintro e w2 ⟨rfl,T2⟩
   have T2:=HI.out.2.trans T2 fun _ _ f=>f
   obtain ⟨q2,hq2⟩: ∃q2,w2.heap.size=q2:=⟨_,rfl⟩
   have HT:=Lib.hid (T2.alloc (.cells #[.int .i64 x,.int .i64 y,.int .i64 z] 199))
   have hd0:(w2.alloc (.cells #[.int .i64 x,.int .i64 y,.int .i64 z] 199)).cell? ⟨q2,0,none⟩=some (.int .i64 x):=by rw [←hq2,Ux.cell_newg];rfl
   have hd1:(w2.alloc (.cells #[.int .i64 x,.int .i64 y,.int .i64 z] 199)).cell? ⟨q2,1,none⟩=some (.int .i64 y):=by rw [←hq2,Ux.cell_newg];rfl
   have hd2:(w2.alloc (.cells #[.int .i64 x,.int .i64 y,.int .i64 z] 199)).cell? ⟨q2,2,none⟩=some (.int .i64 z):=by rw [←hq2,Ux.cell_newg];rfl
   have hb0:(w2.alloc (.cells #[.int .i64 x,.int .i64 y,.int .i64 z] 199)).cell? ⟨B,0,none⟩=some (.map (some mb)):=HT.out.cell HH.out.2.2.2.2.2.2.2.2.2.2 (fun f=>f)
   have HLK:=Lib.hid hlk
   cases hfe:findE E ((s.drop i).take m) with
   |some l=>
    rw [hfe] at hfind
    obtain ⟨u,hu,hrow⟩:=hfind
    rw [hu] at HLK
    simp only [Option.getD_some,Option.isSome_some] at HLK
    have HU:=Lib.hid (And.intro hrow hfe)
    clear hlk hfe hu hrow T2
    go_upto_region 8 with (fail)
    refine Ux.wpr (fun _ w'=>w'.cell? ⟨B,0,none⟩=some (.map (some mb))∧w'.cell? ⟨q2,0,none⟩=some (.int .i64 x)∧w'.cell? ⟨q2,1,none⟩=some (.int .i64 y)∧w'.cell? ⟨q2,2,none⟩=some (.int .i64 z)) (.q [0,1,2] (.h false [3,4] (.e 5 true false (.q [6,7,8,9] (.line [10]))))) ?_;repeat ((with_reducible refine Ux.qg ?_);refine Ux.qu ?_)
    go_wp2_with (at_lookup;refine Ux.wpList_look rfl _ _ 196 rfl rfl rfl (HLK.out _ HT.out.drew) ?_)
    refine ⟨by simp only [World.cell?_drew];exact ⟨hb0,hd0,hd1,hd2⟩,?_⟩
    repeat ((with_reducible refine Ux.qg ?_);refine Ux.qu ?_)
    go_wp2
    go_ret2
    have hA:atE E s i=(l,m):=by
     unfold atE
     rw [HH.out.2.2.2.2.2.2.2.1,←HI.out.1,Ux.longE_some (by omega) HU.out.2]
     rfl
    rw [hA]
    exact ⟨u,rfl,HU.out.1.touch0 HT.out.drew,HT.out.drew⟩
   |none=>
    rw [hfe] at hfind
    simp only at hfind
    rw [hfind] at HLK
    simp only [Option.getD_none,Option.isSome_none] at HLK
    have HU:=Lib.hid hfe
    clear hlk hfe hfind T2
    go_upto_region 8 with (fail)
    refine Ux.wpr (fun _ w'=>w'.cell? ⟨B,0,none⟩=some (.map (some mb))∧w'.cell? ⟨q2,0,none⟩=some (.int .i64 x)∧w'.cell? ⟨q2,1,none⟩=some (.int .i64 y)∧w'.cell? ⟨q2,2,none⟩=some (.int .i64 z)) (.q [0,1,2] (.h false [3,4] (.e 5 true false (.q [6,7,8,9] (.line [10]))))) ?_;repeat ((with_reducible refine Ux.qg ?_);refine Ux.qu ?_)
    go_wp2_with (at_lookup;refine Ux.wpList_look rfl _ _ 196 rfl rfl rfl (HLK.out _ HT.out.drew) ?_)
    refine ⟨by simp only [World.cell?_drew];exact ⟨hb0,hd0,hd1,hd2⟩,?_⟩
    repeat ((with_reducible refine Ux.qg ?_);refine Ux.qu ?_)
    go_wp2
    go_roundg g'
    case measure=>omega
    case rel=>
     refine ⟨m-1,by congr 1;omega,by omega,by omega,by omega,Lib.hid ⟨?_,HT.out.drew⟩⟩
     rw [←HI.out.1,Ux.longE_none (by omega) HU.out]
end Go.Proofs.YtmnkinaaoifpeaaGreatDoor
namespace Go.Proofs.YtmnkinaaoifpeaaGreatDoor
open Go.RowKit
open Ux (Row iv sv Ent ev okT atE Grow)
open Ux.Sign (cp raw signs)
theorem infoE:(Tryz.prog.info? 202).map (fun i=>(i.zero,i.size,i.bytes))=some (some (.int .u32 0),1,4):=by kernel_rfl
theorem ev_one (l:List Nat): ∀u∈ev l,u.oneCell'=true:=fun u hu=>by obtain ⟨b,_,rfl⟩:=List.mem_map.1 hu;rfl
theorem clipE_none (w:World):Calls Tryz.prog 224 #[.slice none 0 0] w fun e w'=>e= .returned (.slice none 0 0)∧w'=w:=by
 go_enter Tryz.func224,Tryz.ntmps224
 go_wp2
 go_ret
 exact ⟨rfl,rfl⟩
theorem clipE_some (g n c:Nat) (w:World) (h:n≤c):Calls Tryz.prog 224 #[.slice (some ⟨g,0,none⟩) n c] w fun e w'=>e= .returned (.slice (some ⟨g,0,none⟩) n n)∧w'=w:=by
 go_enter Tryz.func224,Tryz.ntmps224
 go_wp2
 go_ret
 exact ⟨rfl,rfl⟩
theorem clipE {w:World} {lo:Nat} {v:Value} {xs:List Value} (h:Row w lo 202 v xs): ∃v',Row w lo 202 v' xs∧Calls Tryz.prog 224 #[v] w fun e w'=>e= .returned v'∧w'=w:=by
 rcases h.cases with ⟨rfl,rfl⟩|⟨g,c,rfl,hc,hr⟩
 ·exact ⟨_,Row.nil _ _ _,clipE_none w⟩
 ·exact ⟨_,hr,clipE_some g _ c w hc⟩
set_option maxHeartbeats 2000000 in
theorem cloneE {w:World} {v:Value} (l:List Nat) (h:Row w 0 202 v (ev l)) (hl:l.length≤1000000000):Calls Tryz.prog 229 #[v] w fun e w'=> ∃v',e= .returned v'∧Row w' w.heap.size 202 v' (ev l)∧Ux.Touch (fun _=>False) w w':=by
 rcases h with ⟨rfl,h0⟩|⟨g,c,cur,rfl,hg,hh,h1,h2,h3⟩
 ·rw [h0]
  go_enter Tryz.func229,Tryz.ntmps229
  go_wp2
  go_ret
  exact ⟨_,rfl,Row.nil _ _ _,Ux.Touch.refl _ _⟩
 ·have hr:Row w 0 202 (.slice (some ⟨g,0,none⟩) (ev l).length c) (ev l):= .inr ⟨g,c,cur,rfl,hg,hh,h1,h2,h3⟩
  obtain ⟨n,hn⟩: ∃n,(ev l).length=n:=⟨_,rfl⟩
  have hn2:n=l.length:=by rw [←hn,Ux.ev_length]
  rw [hn] at hr⊢
  have hG:=Grow.empty w w.heap.size 202 (Nat.le_refl _)
  obtain ⟨r,w2,hrun,hG2,hT⟩:=hG.appRow (P:=Tryz.prog) 197 4 _ Tryz.underlying197 infoE rfl _ _ (hr.touch0 ((Ux.Touch.refl (fun _=>False) w).alloc _)) (ev_one l) (by simp) (by rw [hn];simp [maxLen];omega) (by rw [hn];simp;omega)
  have HR:=Lib.hid (And.intro hrun (And.intro hG2 hT))
  clear hr hh h1 h2 h3 hG hrun hG2 hT hn hn2 hl
  go_enter Tryz.func229,Tryz.ntmps229
  go_wp2_with (at_builtin;refine Ux.wpList_app (v1:= .slice (some ⟨w.heap.size,0,none⟩) 0 0) (x1:= .slice (some ⟨g,0,none⟩) n c) rfl _ _ _ _ rfl rfl rfl (HR.out.1 _) ?_)
  go_ret
  exact ⟨_,rfl,HR.out.2.1.row,((Ux.Touch.refl (fun _=>False) w).alloc _).trans HR.out.2.2 fun b hb h=>by have:=h.1;omega⟩
end Go.Proofs.YtmnkinaaoifpeaaGreatDoor
namespace Go.Proofs.YtmnkinaaoifpeaaGreatDoor
open Go.RowKit
open Ux (Row iv sv Ent k3 kl3 okS okE ev TabMap Tells okT findE RangeIs)
open Ux.Sign (cp raw)
theorem anyN_drop {l:List Nat} {i:Nat} {p:Nat} (h:l[i]? =some p) (f:Nat→Bool):(l.drop i).any f=(f p||(l.drop (i+1)).any f):=by
 obtain ⟨hi,e⟩:=List.getElem?_eq_some_iff.1 h
 rw [List.drop_eq_getElem_cons hi,e]
 rfl
set_option maxHeartbeats 2000000 in
theorem indexE (v:Value) (l:List Nat) (w:World) (h:Row w 0 202 v (ev l)) (hx: ∀x∈l,x<4294967296) (hl:l.length≤1152921504606846976):
 Calls Tryz.prog 233 #[v,.func (.func 194) #[] #[]] w fun e w'=> ∃k:Int,e= .returned (.int .i64 k)∧(decide (k≥0))=(l.any badW)∧Ux.Touch (fun _=>False) w w':=by
 obtain ⟨a,cp,rfl,hcell⟩:=h.is
 rw [Ux.ev_length]
 obtain ⟨n,hn⟩: ∃n,l.length=n:=⟨_,rfl⟩
 obtain ⟨r,hr⟩: ∃r,(l.any badW)=r:=⟨_,rfl⟩
 rw [hn] at hl
 rw [hn,hr]
 have HC:=Lib.hid (And.intro hcell hx)
 have HR:=Lib.hid (And.intro hr hn)
 have j0:(n:Int)≤1152921504606846976:=by omega
 clear hcell hr hn hl hx h
 go_enter Tryz.func233,Tryz.ntmps233
 go_wp2
 go_loopg [8] n (fun g s8 wr=> ∃i:Nat,s8= .int .i64 i∧i+g=n∧Hid ((l.drop i).any badW=r)∧Hid (Ux.Touch (fun _=>False) w wr))
 case atStart=>exact ⟨0,rfl,by omega,Lib.hid HR.out.1,Lib.hid (Ux.Touch.refl _ _)⟩
 case round=>
  obtain ⟨i,rfl,hig,HF,HT⟩:=hrel
  have p0:(0:Int)≤i:=by omega
  by_cases hlt:i<n
  ·obtain ⟨g',rfl⟩: ∃g',gk=g'+1:=⟨gk-1,by omega⟩
   obtain ⟨p,hp⟩: ∃p,l[i]? =some p:=⟨l[i]'(by have:=HR.out.2;omega),List.getElem?_eq_getElem (by have:=HR.out.2;omega)⟩
   obtain ⟨b,ha,_,c1⟩:=HC.out.1 i _ (Ux.ev_get hp)
   have hd:=anyN_drop hp badW
   subst ha
   have c1:=HT.out.cell c1 (fun f=>f)
   have j1:(i:Int)<n:=by omega
   obtain ⟨m,hm⟩: ∃m,badW p=m:=⟨_,rfl⟩
   have cB: ∀w,Calls Tryz.prog 194 #[.int .u32 p] w fun e w'=>e= .returned (.bool m)∧w'=w:=fun w=>by
    have:=chk1_ p (HC.out.2 p (List.mem_of_getElem? hp)) w
    rwa [hm] at this
   rw [hm] at hd
   have HD:=Lib.hid hd
   have CB:=Lib.hid cB
   clear hd hp hm cB
   cases m
   ·go_wp2_with (go_at_call 194;refine (CB.out _).mono ?_;rintro e w' ⟨rfl,rfl⟩)
    go_roundg g'
    case measure=>omega
    case rel=>exact ⟨i+1,rfl,by omega,Lib.hid (by have:=HD.out;simp at this;rw [←HF.out,←this]),HT⟩
   ·go_wp2_with (go_at_call 194;refine (CB.out _).mono ?_;rintro e w' ⟨rfl,rfl⟩)
    go_ret
    exact ⟨_,rfl,by rw [←HF.out,HD.out];simp,HT.out⟩
  ·have q1: ¬(i:Int)<n:=by omega
   have hr0:r=false:=by
    rw [←HF.out,List.drop_eq_nil_of_le (by have:=HR.out.2;omega)]
    rfl
   subst hr0
   clear hlt
   go_wp2
   go_ret
   exact ⟨_,rfl,by decide,HT.out⟩
theorem contE (v:Value) (l:List Nat) (w:World) (h:Row w 0 202 v (ev l)) (hx: ∀x∈l,x<4294967296) (hl:l.length≤1152921504606846976):
 Calls Tryz.prog 193 #[v,.func (.func 194) #[] #[]] w fun e w'=>e= .returned (.bool (l.any badW))∧Ux.Touch (fun _=>False) w w':=by
 have c:=Lib.hid (indexE v l w h hx hl)
 obtain ⟨r,hr⟩: ∃r,(l.any badW)=r:=⟨_,rfl⟩
 rw [hr] at c⊢
 clear hr h
 go_enter Tryz.func193,Tryz.ntmps193
 go_wp2_with (go_at_call 233;refine c.out.mono ?_;rintro e w' ⟨k,rfl,hk,ht⟩)
 go_ret
 exact ⟨by rw [←hk];rfl,ht⟩
set_option maxHeartbeats 4000000 in
set_option maxRecDepth 100000 in
theorem entry_ (B mb:Nat) (E:List Ent) (s:List Nat) (v:Value) (w:World) (hT:TableAt w B mb E) (hok:okS s) (hs: ∀c∈s,cp c∨raw c) (hv:SView w v s):
 Calls Tryz.prog 192 #[.pointer (some ⟨B,0,none⟩),v] w fun e w'=> ∃u,e= .returned (.tuple #[u,.bool (findE E s).isSome])∧Row w' w.heap.size 202 u (ev ((findE E s).getD []))∧Ux.Touch (fun _=>False) w w':=by
 obtain ⟨⟨h0,F,h1,h2⟩,t,ks,f,hB,hTr,hLI⟩:=hT
 have hB0:w.cell? ⟨B,0,none⟩=some (.map (some mb)):=by rw [cell_of_row w B 0 _ _ (0,0) hB];rfl
 obtain ⟨x,y,z,hk3⟩:=k3_is hok
 have hkey:=key3_ s hok hs v w hv x y z hk3
 have hlk: ∀w',Ux.Touch (fun _=>False) w w'→(Instr.lookup 196 (.map (some mb)) (.agg #[.int .i64 x,.int .i64 y,.int .i64 z]) true).run Tryz.prog w'= .ok (.tuple #[(F (kl3 s)).getD (.slice none 0 0),.bool (F (kl3 s)).isSome]) w':=fun w' T=>by
  have h:=(h1.touch T (fun f=>f)).lookOk keyedS Tryz.underlying196 (zeroEs w') (keyS hok)
  rw [hk3] at h
  exact h
 have hfind:=Ux.Tells.find h0 h2 hok
 have hu: ∃u,F (kl3 s)=(if (findE E s).isSome then some u else none)∧Row w 0 202 u (ev ((findE E s).getD []))∧((findE E s).isSome=false→u= .slice none 0 0):=by
  cases hfe:findE E s with
  |some l=>
   rw [hfe] at hfind
   obtain ⟨u,hu,hrow⟩:=hfind
   exact ⟨u,by rw [hu];rfl,hrow,fun h=>by cases h⟩
  |none=>
   rw [hfe] at hfind
   exact ⟨_,hfind,Row.nil _ _ _,fun _=>rfl⟩
 have hlen:((findE E s).getD []).length≤8:=by
  cases hfe:findE E s with
  |some l=>exact (h0.2 _ (Ux.findE_some hfe)).2.1
  |none=>simp
 obtain ⟨u,hu1,hu2,hu3⟩:=hu
 obtain ⟨l,hl⟩: ∃l,(findE E s).getD []=l:=⟨_,rfl⟩
 obtain ⟨b,hb⟩: ∃b,(findE E s).isSome=b:=⟨_,rfl⟩
 rw [hb] at hu1 hu3⊢
 rw [hl] at hu2 hlen⊢
 have hlk2: ∀w',Ux.Touch (fun _=>False) w w'→(Instr.lookup 196 (.map (some mb)) (.agg #[.int .i64 x,.int .i64 y,.int .i64 z]) true).run Tryz.prog w'= .ok (.tuple #[u,.bool b]) w':=fun w' T=>by
  rw [hlk w' T,hu1]
  cases b with
  |true=>rfl
  |false=>rw [hu3 rfl];rfl
 have HLK:=Lib.hid hlk2
 have HK:=Lib.hid hkey
 have HH:=Lib.hid (And.intro hu2 (And.intro hlen hB0))
 clear hlk hlk2 hkey hu1 hu2 hu3 hl hb hfind hlen h0 h1 h2 hB hTr hLI hok hs hk3 hB0
 obtain ⟨a,cp4,rfl,_⟩:=hv
 obtain ⟨n,hn⟩: ∃n,s.length=n:=⟨_,rfl⟩
 rw [hn] at HK⊢
 clear hn
 go_enter Tryz.func192,Tryz.ntmps192
 go_wp2_with (go_at_call 230;fail)
 refine HK.out.mono ?_
 rintro e w2 ⟨rfl,T2⟩
 obtain ⟨q2,hq2⟩: ∃q2,w2.heap.size=q2:=⟨_,rfl⟩
 have HT:=Lib.hid (T2.alloc (.cells #[.int .i64 x,.int .i64 y,.int .i64 z] 199))
 have hd0:(w2.alloc (.cells #[.int .i64 x,.int .i64 y,.int .i64 z] 199)).cell? ⟨q2,0,none⟩=some (.int .i64 x):=by rw [←hq2,Ux.cell_newg];rfl
 have hd1:(w2.alloc (.cells #[.int .i64 x,.int .i64 y,.int .i64 z] 199)).cell? ⟨q2,1,none⟩=some (.int .i64 y):=by rw [←hq2,Ux.cell_newg];rfl
 have hd2:(w2.alloc (.cells #[.int .i64 x,.int .i64 y,.int .i64 z] 199)).cell? ⟨q2,2,none⟩=some (.int .i64 z):=by rw [←hq2,Ux.cell_newg];rfl
 have hb0:(w2.alloc (.cells #[.int .i64 x,.int .i64 y,.int .i64 z] 199)).cell? ⟨B,0,none⟩=some (.map (some mb)):=HT.out.cell HH.out.2.2 (fun f=>f)
 clear T2 HK
 go_upto_region 4 with (fail)
 refine Ux.wpr (fun _ w'=>w'.cell? ⟨B,0,none⟩=some (.map (some mb))∧w'.cell? ⟨q2,0,none⟩=some (.int .i64 x)∧w'.cell? ⟨q2,1,none⟩=some (.int .i64 y)∧w'.cell? ⟨q2,2,none⟩=some (.int .i64 z)) (.q [0,1,2] (.h false [3,4] (.e 5 true false (.q [6,7,8,9] (.line [10]))))) ?_;repeat ((with_reducible refine Ux.qg ?_);refine Ux.qu ?_)
 go_wp2_with (at_lookup;refine Ux.wpList_look rfl _ _ 196 rfl rfl rfl (HLK.out _ HT.out.drew) ?_)
 refine ⟨by simp only [World.cell?_drew];exact ⟨hb0,hd0,hd1,hd2⟩,?_⟩
 repeat ((with_reducible refine Ux.qg ?_);refine Ux.qu ?_)
 clear hb0 hd0 hd1 hd2
 go_wp2_with (go_at_call 229;fail)
 refine (cloneE l (HH.out.1.touch0 HT.out.drew) (by have:=HH.out.2.1;omega)).mono ?_
 rintro e w4 ⟨v4,rfl,hr4,T4⟩
 obtain ⟨v5,hr5,hc5⟩:=clipE hr4
 have HC:=Lib.hid hc5
 have HR:=Lib.hid (And.intro hr5 T4)
 clear hr4 hc5 hr5 T4
 go_wp2_with (go_at_call 224;fail)
 refine HC.out.mono ?_
 rintro e w5 ⟨rfl,rfl⟩
 go_wp2
 go_ret2
 exact ⟨_,rfl,HR.out.1.mono HT.out.drew.size,HT.out.drew.trans HR.out.2 fun _ _ f=>f⟩
def goodEnt (E:List Ent) (e:Ent):Bool:=((List.range e.1.length).all fun n=>n==0||(findE E (e.1.take n)).isSome)&& !(e.2.any badW)
def checkE (E:List Ent):Bool:=E.all (goodEnt E)
end Go.Proofs.YtmnkinaaoifpeaaGreatDoor
namespace Go.Proofs.YtmnkinaaoifpeaaGreatDoor
open Go.RowKit
open Ux (Row iv sv Ent k3 kl3 okS okE ev TabMap Tells okT findE RangeIs)
open Ux.Sign (cp raw)
theorem goodEnt_yes {E:List Ent} {e:Ent} (h1: ∀n,n<e.1.length→n≠0→(findE E (e.1.take n)).isSome=true) (h2:e.2.any badW=false):goodEnt E e=true:=by
 unfold goodEnt
 rw [Bool.and_eq_true,h2]
 refine ⟨List.all_eq_true.2 fun n hn=> ?_,rfl⟩
 by_cases h0:n=0
 ·subst h0;rfl
 ·rw [h1 n (List.mem_range.1 hn) h0];simp
theorem goodEnt_no1 {E:List Ent} {e:Ent} {n:Nat} (hn:n<e.1.length) (h0:n≠0) (h:(findE E (e.1.take n)).isSome=false):goodEnt E e=false:=by
 unfold goodEnt
 rw [Bool.and_eq_false_iff]
 refine .inl (List.all_eq_false.2 ⟨n,List.mem_range.2 hn,?_⟩)
 rw [h]
 simpa using h0
theorem goodEnt_no2 {E:List Ent} {e:Ent} (h:e.2.any badW=true):goodEnt E e=false:=by
 unfold goodEnt
 rw [h]
 simp
theorem checkE_no {E:List Ent} {e:Ent} (he:e∈E) (h:goodEnt E e=false):checkE E=false:=List.all_eq_false.2 ⟨e,he,by rw [h];simp⟩
set_option maxHeartbeats 8000000 in
set_option maxRecDepth 100000 in
theorem check_ (B mb:Nat) (E:List Ent) (w:World) (hT:TableAt w B mb E) (hs: ∀e∈E,∀c∈e.1,cp c∨raw c):
 Calls Tryz.prog 149 #[.pointer (some ⟨B,0,none⟩)] w fun e w'=>e= .returned (.int .i64 (if checkE E then 0 else 3))∧Ux.Touch (fun _=>False) w w':=by
 have HTA:=Lib.hid hT
 obtain ⟨⟨h0,F,h1,h2⟩,t,ks,f,hB,hTr,hLI⟩:=hT
 have hB0:w.cell? ⟨B,0,none⟩=some (.map (some mb)):=by rw [cell_of_row w B 0 _ _ (0,0) hB];rfl
 obtain ⟨q,hq⟩: ∃q,w.heap.size=q:=⟨_,rfl⟩
 have HH:=Lib.hid (And.intro h0 (And.intro h1 (And.intro h2 hs)))
 have hmq: ¬mb=q:=by have:=h1.lt;omega
 obtain ⟨R,hR⟩: ∃R:Int,(if checkE E then 0 else 3)=R:=⟨_,rfl⟩
 rw [hR]
 have HR:=Lib.hid hR
 clear h0 h1 h2 hB hTr hLI hs hR
 go_enter Tryz.func149,Tryz.ntmps149
 go_wp2_with (at_range;refine Ux.wpList_rangeM rfl _ 196 rfl 199 197 keyedS Tryz.underlying196 mb E.length F rfl HH.out.2.1 ?_;(try rw [hq]);intro w2 cnt hr ht hs;have HRA:=Lib.hid (And.intro hr (And.intro ht hs));clear hr ht hs)
 clear hB0
 go_frame
 go_loopg [] cnt (fun g wr=> ∃(left:Lit→Bool) (c2:Nat),c2≤g∧Hid (RangeIs Tryz.prog 199 wr mb q E.length F left c2∧(∀e∈E,left (kl3 e.1)=false→goodEnt E e=true)∧Ux.Touch (fun _=>False) w wr))
 case atStart=>
  refine ⟨_,cnt,Nat.le_refl _,Lib.hid ⟨HRA.out.1,fun e he h=> ?_,HRA.out.2.1⟩⟩
  obtain ⟨v,hv,_⟩:=HH.out.2.2.1.1 e he
  simp only [hv,Option.isSome_some] at h
  cases h
 case round=>
  obtain ⟨left,c2,hc1,HI⟩:=hrel
  by_cases hc0:c2=0
  ·subst hc0
   go_wp2_with (at_next;refine Ux.wpList_nextM rfl _ rfl 199 keyedS mb q E.length F left 0 rfl HI.out.1 ?_ ?_;rotate_left;(intro _ _ _ _ c4 _ _ _ _ h4;exact absurd h4 (Nat.not_lt_zero _));intro _ hleft;have HL:=Lib.hid hleft;clear hleft)
   go_ret
   refine ⟨?_,HI.out.2.2⟩
   have hch:checkE E=true:=List.all_eq_true.2 fun e he=>HI.out.2.1 e he (HL.out _)
   rw [←HR.out,hch]
   rfl
  ·obtain ⟨g',rfl⟩: ∃g',gk=g'+1:=⟨gk-1,by omega⟩
   go_upto_region 4 with (at_next;refine Ux.wpList_nextM rfl _ rfl 199 keyedS mb q E.length F left c2 rfl HI.out.1 (fun h _=>absurd h hc0) ?_;intro key v kl w3 c3 hkey hlk hf hrg hlt ht hsz hen;have HN:=Lib.hid (And.intro hkey (And.intro hlk (And.intro hf (And.intro hrg (And.intro hlt (And.intro ht hsz))))));obtain ⟨e,he,hke⟩:=HH.out.2.2.1.2 kl v hf;subst hke;have hok:=(HH.out.1.2 e he).1;obtain ⟨x,y,z,hk3⟩:=k3_is hok;have hkv:=keyedS.inj hkey (keyS hok);rw [hk3] at hkv;have hkv:key= .agg #[.int .i64 x,.int .i64 y,.int .i64 z]:=hkv;subst hkv;have HE:=Lib.hid (And.intro he (And.intro hok hk3));clear hkey hlk hf hrg hlt ht hsz he hok hk3)
   obtain ⟨v',hv',hrow⟩:=HH.out.2.2.1.1 e HE.out.1
   have hvv:v'=v:=Option.some.inj (hv'.symm.trans HN.out.2.2.1)
   subst hvv
   have HV:=Lib.hid hrow
   clear hv' hrow
   go_wp2_with (go_at_call 158;fail)
   refine (ssigns3 e.1 HE.out.2.1 x y z HE.out.2.2 _).mono ?_
   rintro e2 w4 ⟨v4,rfl,hR4,T4⟩
   obtain ⟨n,hn⟩: ∃n,e.1.length=n:=⟨_,rfl⟩
   have hn1:=HE.out.2.1.1
   have hn3:=HE.out.2.1.2.1
   have hR0:=hR4
   rcases hR4.cases with ⟨_,h⟩|⟨g4,c4,rfl,hc4,_⟩
   ·have:=congrArg List.length h
    rw [Ux.iv_length,Ux.sv_length] at this
    simp at this
    rw [this] at hn1
    simp at hn1
   rw [Ux.iv_length,Ux.sv_length,hn] at hc4 hR0⊢
   rw [hn] at hn1 hn3
   have n1:(1:Int)≤n:=by omega
   have n3:(n:Int)≤3:=by omega
   have c40:(n:Int)≤c4:=by omega
   have TW4:Ux.Touch (fun _=>False) w w4:=((HI.out.2.2.trans HN.out.2.2.2.2.2.1 fun i hi h=>by omega).trans ((Ux.Touch.refl (fun _=>False) _).alloc _) fun _ _ f=>f).trans T4 fun _ _ f=>f
   have T14:Ux.Touch (fun i=>i=q) wr w4:=(HN.out.2.2.2.2.2.1.trans ((Ux.Touch.refl (fun _=>False) _).alloc _) fun _ _ f=>f.elim).trans T4 fun _ _ f=>f.elim
   have T34:Ux.Touch (fun _=>False) w3 w4:=((Ux.Touch.refl (fun _=>False) _).alloc _).trans T4 fun _ _ f=>f
   have HX:=Lib.hid (And.intro hR0 (And.intro TW4 (And.intro T34 hn)))
   clear hR4 hR0 T4 T14 TW4 T34 hn hc4 hn1 hn3
   go_wp2
   go_loopg [6] (n-1) (fun g s6 wr=> ∃k:Nat,s6= .int .i64 k∧1≤k∧k+g=n∧Hid ((∀j,j<k→j≠0→(findE E (e.1.take j)).isSome=true)∧Ux.Touch (fun _=>False) w4 wr))
   case atStart=>exact ⟨1,rfl,Nat.le_refl _,by omega,Lib.hid ⟨fun j h1 h2=>absurd h1 (by omega),Ux.Touch.refl _ _⟩⟩
   case round=>
    obtain ⟨k,rfl,hk1,hkg,HJ⟩:=hrel
    by_cases hkn:k=n
    ·subst hkn
     have hx:=(HH.out.1.2 e HE.out.1).2
     have hcont:=contE v' e.2 wr ((HV.out.touch0 HX.out.2.1).touch0 HJ.out.2) hx.2 (by omega)
     obtain ⟨b,hb⟩: ∃b,e.2.any badW=b:=⟨_,rfl⟩
     rw [hb] at hcont
     have HC:=Lib.hid hcont
     have HB:=Lib.hid hb
     clear hcont hb hx
     cases b with
     |true=>
      go_wp2_with (go_at_call 193;refine HC.out.mono ?_;rintro e5 w5 ⟨rfl,T5⟩)
      go_ret
      refine ⟨?_,(HX.out.2.1.trans HJ.out.2 fun _ _ f=>f).trans T5 fun _ _ f=>f⟩
      rw [←HR.out,checkE_no HE.out.1 (goodEnt_no2 HB.out)]
      rfl
     |false=>
      go_wp2_with (go_at_call 193;refine HC.out.mono ?_;rintro e5 w5 ⟨rfl,T5⟩;have HT5:=Lib.hid T5;clear T5)
      go_roundg g'
      case measure=>omega
      case rel=>
       have hlt:=HN.out.2.2.2.2.1
       have T35:Ux.Touch (fun _=>False) w3 w5:=(HX.out.2.2.1.trans HJ.out.2 fun _ _ f=>f).trans HT5.out fun _ _ f=>f
       refine ⟨_,c3,by omega,Lib.hid ⟨HN.out.2.2.2.1.touch T35 (fun f=>f) (fun f=>f),fun d hd hl=> ?_,(HX.out.2.1.trans HJ.out.2 fun _ _ f=>f).trans HT5.out fun _ _ f=>f⟩⟩
       cases hk:left (kl3 d.1) with
       |false=>exact HI.out.2.1 d hd hk
       |true=>
        simp only [hk,Bool.true_and,Bool.not_eq_false'] at hl
        have hde:=Ux.kl3_inj (HH.out.1.2 d hd).1 HE.out.2.1 (WideAt.sameKey_eq hl)
        have:d=e:=by
         have h1:=Ux.findE_mem HH.out.1.1 hd
         have h2:=Ux.findE_mem HH.out.1.1 HE.out.1
         rw [hde,h2] at h1
         exact Prod.ext hde (Option.some.inj h1).symm
        subst this
        exact goodEnt_yes (fun j h1 h2=>HJ.out.1 j (by have:=HX.out.2.2.2;omega) h2) HB.out
    ·obtain ⟨g2,rfl⟩: ∃g2,gk=g2+1:=⟨gk-1,by omega⟩
     have kn:(k:Int)<n:=by omega
     have k0:(1:Int)≤k:=by omega
     have hkl:k<e.1.length:=by have:=HX.out.2.2.2;omega
     have hok2:okS (e.1.take k):=⟨by simp;omega,by have:=HE.out.2.1.2.1;simp;omega,fun c hc=>HE.out.2.1.2.2 c (List.mem_of_mem_take hc)⟩
     have hview:SView wr (.slice (some ⟨g4,0,none⟩) k c4) (e.1.take k):=by
      refine ⟨some ⟨g4,0,none⟩,c4,by congr 1;simp;omega,fun j x hj=>⟨g4,0,rfl,?_⟩⟩
      rw [List.getElem?_take] at hj
      split at hj
      ·obtain ⟨g5,hg5,_,hc5⟩:=(HX.out.1.touch0 HJ.out.2).at (Ux.iv_get (Ux.sv_get hj))
       cases hg5
       rw [Nat.zero_add]
       exact hc5
      ·cases hj
     have hent:=entry_ B mb E (e.1.take k) _ wr (HTA.out.touch0 (HX.out.2.1.trans HJ.out.2 fun _ _ f=>f)) hok2 (fun c hc=>HH.out.2.2.2 e HE.out.1 c (List.mem_of_mem_take hc)) hview
     obtain ⟨b,hb⟩: ∃b,(findE E (e.1.take k)).isSome=b:=⟨_,rfl⟩
     rw [hb] at hent
     have HC:=Lib.hid hent
     have HB:=Lib.hid (And.intro hb hkl)
     clear hent hb hview hok2 hkl
     cases b with
     |false=>
      go_wp2_with (go_at_call 192;refine HC.out.mono ?_;rintro e5 w5 ⟨u5,rfl,_,T5⟩)
      go_ret
      refine ⟨?_,(HX.out.2.1.trans HJ.out.2 fun _ _ f=>f).trans T5 fun _ _ f=>f⟩
      rw [←HR.out,checkE_no HE.out.1 (goodEnt_no1 HB.out.2 (by omega) HB.out.1)]
      rfl
     |true=>
      go_wp2_with (go_at_call 192;refine HC.out.mono ?_;rintro e5 w5 ⟨u5,rfl,_,T5⟩;have HT5:=Lib.hid T5;clear T5)
      go_roundg g2
      case measure=>omega
      case rel=>
       refine ⟨k+1,by congr 1,by omega,by omega,Lib.hid ⟨fun j h1 h2=> ?_,HJ.out.2.trans HT5.out fun _ _ f=>f⟩⟩
       by_cases hj:j=k
       ·subst hj;exact HB.out.1
       ·exact HJ.out.1 j (by omega) h2
end Go.Proofs.YtmnkinaaoifpeaaGreatDoor
namespace Go.Proofs.YtmnkinaaoifpeaaGreatDoor
open Go.RowKit
open Ux (Row iv sv Ent ev rootE)
open Ux.Sign (cp raw signs)
theorem rootT_ (w:World):Calls Tryz.prog 82 #[] w fun e w'=> ∃B mb,e= .returned (.pointer (some ⟨B,0,none⟩))∧TableAt w' B mb rootE∧w.heap.size≤B∧Ux.Touch (fun _=>False) w w':=by
 refine (root_ w (fun v w'=> ∃B mb,v= .pointer (some ⟨B,0,none⟩)∧TableAt w' B mb rootE∧w.heap.size≤B∧Ux.Touch (fun _=>False) w w') fun wr h=> ?_).mono ?_
 ·obtain ⟨h1,_,h3,_⟩:=h
  rw [show rootE.take 132=rootE from List.take_of_length_le (by rw [Ux.rootE_len];exact Nat.le_refl _)] at h1
  refine (tbuild_ _ rootE wr h1 (by rw [Ux.rootE_len];omega)).mono ?_
  rintro e w' ⟨B,rfl,hB,hT,ht⟩
  exact ⟨_,rfl,B,_,rfl,hT,by have:=h3.size;omega,h3.trans ht fun _ _ f=>f⟩
 ·rintro e w' ⟨v,rfl,B,mb,rfl,h⟩
  exact ⟨B,mb,rfl,h⟩
theorem rootE_sig: ∀e∈rootE,∀c∈e.1,cp c∨raw c:=by
 have h:(rootE.all fun e=>e.1.all fun c=>decide (c<55296))=true:=by decide+kernel
 intro e he c hc
 have h1:=List.all_eq_true.1 (List.all_eq_true.1 h e he) c hc
 exact .inl (.inl (of_decide_eq_true h1))
theorem rootE_check:checkE rootE=true:=by decide+kernel
theorem checkE_perm {E T:List Ent} (hE:(E.map (·.1)).Nodup) (h:E.Perm T):checkE E=checkE T:=by
 unfold checkE
 rw [Bool.eq_iff_iff,List.all_eq_true,List.all_eq_true]
 have hg: ∀e,goodEnt E e=goodEnt T e:=fun e=>by
  unfold goodEnt
  simp only [Ux.findE_perm hE h]
 exact ⟨fun H e he=>by rw [←hg];exact H e (h.mem_iff.2 he),fun H e he=>by rw [hg];exact H e (h.mem_iff.1 he)⟩
end Go.Proofs.YtmnkinaaoifpeaaGreatDoor
namespace Go.Proofs.YtmnkinaaoifpeaaGreatDoor
open Go.RowKit
open Ux (Row iv sv ev eP eS eT eV)
def rc (x:Nat):List Value:= [.int .i64 (eP x:Nat),.int .i64 (eS x:Nat),.int .i64 (eT x:Nat),.bool (eV x)]
def rv (l:List Nat):List Value:=l.flatMap rc
def RRow (w:World) (v:Value) (l:List Nat):Prop:= ∃a c,v= .slice a l.length c∧∀(i x:Nat),l[i]? =some x→∃g o,a=some ⟨g,o,none⟩∧w.cell? ⟨g,o+i*4,none⟩=some (.int .i64 (eP x:Nat))∧
 w.cell? ⟨g,o+i*4+1,none⟩=some (.int .i64 (eS x:Nat))∧w.cell? ⟨g,o+i*4+2,none⟩=some (.int .i64 (eT x:Nat))∧w.cell? ⟨g,o+i*4+3,none⟩=some (.bool (eV x))
theorem RRow.touch0 {w w':World} {v:Value} {l:List Nat} (h:RRow w v l) (ht:Ux.Touch (fun _=>False) w w'):RRow w' v l:=by
 obtain ⟨a,c,rfl,hc⟩:=h
 refine ⟨a,c,rfl,fun i x hx=> ?_⟩
 obtain ⟨g,o,rfl,h1,h2,h3,h4⟩:=hc i x hx
 exact ⟨g,o,rfl,ht.cell h1 (fun f=>f),ht.cell h2 (fun f=>f),ht.cell h3 (fun f=>f),ht.cell h4 (fun f=>f)⟩
theorem RRow.nil (w:World):RRow w (.slice none 0 0) []:=⟨none,0,rfl,fun i x h=>by simp at h⟩
end Go.Proofs.YtmnkinaaoifpeaaGreatDoor
