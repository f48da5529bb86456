/- A part of the proof that the statement holds for every input that it names. No other condition. -/
import Derived.Test.YtfccjaboicpohaaGreatDoorKpAY
set_option linter.unusedVariables false
set_option linter.unusedSimpArgs false
namespace Go.Proofs.YtfccjaboicpohaaGreatDoor
open Go.RowKit
open Ux (Ent sv findE putE okE okT okS SameE SortedE elemsE rootT stepA raise mapE lastW fullT wF keepW wt8 eP eS eT incW cmpL cmpI longE atE ofE)
open Ux.Sign (cp raw)
theorem findE_mapK (F:Nat→Nat) (T:List Ent) (t:List Nat):findE (mapE F T) t=(findE T t).map (List.map F):=by
 unfold findE mapE
 rw [List.find?_map,Option.map_map,Option.map_map]
 rfl
theorem sgnK_no {c:Nat} (h1:97≤c) (h2:c≤109):sgnK c=false:=by
 unfold sgnK
 rw [decide_eq_false (by omega: ¬110≤c),decide_eq_false (by omega: ¬c≤57),decide_eq_false (by omega: ¬c≤90)]
 simp
theorem raise_wt {L M v x:Nat} (hL:L=1∨L=2∨L=3) (hM:M=1∨M=2∨M=3) (hx:wt8 L x≠lastW L):wt8 M (raise L v x)=if M=L∧v<wt8 L x∧(1<L∨wt8 L x≤64255) then wt8 M x+1 else wt8 M x:=by
 unfold raise
 by_cases h:v<wt8 L x∧(1<L∨wt8 L x≤64255)
 ·rw [if_pos h]
  have e1: ∀y,wt8 1 y=eP y:=fun y=>rfl
  have e2: ∀y,wt8 2 y=eS y:=fun y=>rfl
  have e3: ∀y,wt8 3 y=eT y:=fun y=>rfl
  have l1:lastW 1=64255:=rfl
  have l2:lastW 2=255:=rfl
  have l3:lastW 3=127:=rfl
  rcases hL with rfl|rfl|rfl
  ·rw [e1] at h hx
   rw [l1] at hx
   obtain ⟨a,b,c,_⟩:=Ux.inc_1 x (by omega)
   rcases hM with rfl|rfl|rfl
   ·rw [e1,e1,a,if_pos ⟨rfl,h⟩]
   ·rw [e2,e2,b,if_neg (by omega)]
   ·rw [e3,e3,c,if_neg (by omega)]
  ·rw [e2] at h hx
   rw [l2] at hx
   have hb:eS x<255:=by
    have:eS x<256:=by unfold eS;omega
    omega
   obtain ⟨a,b,c,_⟩:=Ux.inc_2 x hb
   rcases hM with rfl|rfl|rfl
   ·rw [e1,e1,a,if_neg (by omega)]
   ·rw [e2,e2,b,if_pos ⟨rfl,h⟩]
   ·rw [e3,e3,c,if_neg (by omega)]
  ·rw [e3] at h hx
   rw [l3] at hx
   have hb:eT x<127:=by
    have:eT x<128:=by unfold eT;omega
    omega
   obtain ⟨a,b,c,_⟩:=Ux.inc_3 x hb
   rcases hM with rfl|rfl|rfl
   ·rw [e1,e1,a,if_neg (by omega)]
   ·rw [e2,e2,b,if_neg (by omega)]
   ·rw [e3,e3,c,if_pos ⟨rfl,h⟩]
 ·rw [if_neg h,if_neg (fun e=>h e.2)]
theorem gK_map {T:List Ent} (h:KeepT T) (F:Nat→Nat) {c:Nat} (hc:sgnK c=true):findE (mapE F T) [c]=some [F (gK T c)]∧gK (mapE F T) c=F (gK T c):=by
 have e:findE (mapE F T) [c]=some [F (gK T c)]:=by rw [findE_mapK,(h.each c hc).1];rfl
 exact ⟨e,by unfold gK at e⊢;rw [e];rfl⟩
theorem KeepT.raised {T:List Ent} (h:KeepT T) {L:Nat} (v:Nat) (hL:L=1∨L=2∨L=3) (hf:fullT L T=false):KeepT (mapE (raise L v) T):=by
 have hw: ∀c,sgnK c=true→wt8 L (gK T c)≠lastW L:=fun c hc=>Ux.full_no hf (Ux.findE_some (h.each c hc).1) (by simp)
 refine ⟨fun e he c s hs hc=> ?_,fun c hc=> ?_,fun c d hc hd M hM=> ?_⟩
 ·unfold mapE at he
  obtain ⟨e',he',rfl⟩:=List.mem_map.1 he
  exact h.one e' he' c s hs hc
 ·obtain ⟨e1,e2⟩:=gK_map h (raise L v) hc
  rw [e2]
  refine ⟨e1,Ux.raise_lt _ _ _ (h.each c hc).2.1,fun M hM=> ?_⟩
  rw [raise_wt hL hM (hw c hc)]
  have:=(h.each c hc).2.2 M hM
  split<;>omega
 ·rw [(gK_map h (raise L v) hc).2,(gK_map h (raise L v) hd).2,raise_wt hL hM (hw c hc),raise_wt hL hM (hw d hd),←h.ord c d hc hd M hM]
  have w1:=hw c hc
  have w2:=hw d hd
  have l1:L=1→lastW L=64255:=fun e=>by rw [e];rfl
  by_cases hML:M=L
  ·subst hML
   obtain ⟨A,hA⟩: ∃A,wt8 M (gK T c)=A:=⟨_,rfl⟩
   obtain ⟨B,hB⟩: ∃B,wt8 M (gK T d)=B:=⟨_,rfl⟩
   rw [hA] at w1⊢
   rw [hB] at w2⊢
   rcases hL with h1|h1|h1
   ·rw [l1 h1] at w1 w2
    split<;>split<;>omega
   ·split<;>split<;>omega
   ·split<;>split<;>omega
  ·rw [if_neg (fun e=>hML e.1),if_neg (fun e=>hML e.1)]
def ruleAM (x:RulI):Prop:=x.rel≠1→∀c∈x.seq,97≤c∧c≤109
theorem ruleQ_keep {T:List Ent} {a:List Nat} (h:InvT T a) (hk:KeepT T) (x:RulI) (hx:ruleAM x) (h15:1≤x.rel∧x.rel≤5) (h0:(ruleQ T a x).1=0):KeepT (ruleQ T a x).2.1:=by
 unfold ruleQ at h0⊢
 by_cases h1:x.rel=1
 ·rw [if_pos h1] at h0⊢
  split
  ·exact hk
  ·exact hk
 ·rw [if_neg h1] at h0⊢
  obtain ⟨r,hr⟩: ∃r,x.rel.toNat=r:=⟨_,rfl⟩
  rw [hr] at h0⊢
  split at h0
  ·rename_i hz
   exact absurd h0 hz
  ·rename_i hz
   rw [if_neg hz]
   have hz:(goT T a r).1=0:=Classical.not_not.1 hz
   obtain ⟨a2,a3,a4,a5,a6⟩:=goT_ok h hz
   obtain ⟨a1,a7⟩:=goT_inv h hz
   have hkU:KeepT (goT T a r).2.1:=by
    unfold goT at hz⊢
    by_cases h5:r<5
    ·rw [if_pos h5] at hz⊢
     unfold stepA at hz⊢
     cases hl:Ux.lastN (r-1) a a.length with
     |none=>rw [hl] at hz;cases hz
     |some k=>
      rw [hl] at hz
      dsimp only at hz⊢
      split at hz
      ·cases hz
      ·rename_i g1
       split at hz
       ·cases hz
       ·rename_i g2
        rw [if_neg g1,if_neg g2]
        exact hk.raised _ (by omega) (by simpa using g2)
    ·rw [if_neg h5]
     exact hk
   obtain ⟨U,hU⟩: ∃t,(goT T a r).2.1=t:=⟨_,rfl⟩
   obtain ⟨b,hb⟩: ∃t,(goT T a r).2.2=t:=⟨_,rfl⟩
   rw [hU] at a1 a2 a3 a4 hkU h0⊢
   rw [hb] at a6 h0⊢
   split at h0
   ·rename_i hc
    exact absurd h0 hc
   ·rename_i hc
    rw [if_neg hc]
    have hc:codeE U x.seq (b++elemsQ U x.exp)=0:=Classical.not_not.1 hc
    obtain ⟨t,ht,⟨t1,t2,t3⟩,t4,_⟩:=code0 hc
    have hx:=hx h1
    rw [ht] at hx
    dsimp only
    rw [ht,map_sv]
    refine hkU.put a1 a2 ⟨⟨t1,t2,fun c hc=>by have:=t3 c hc;unfold cp raw at this;omega⟩,t4,fun y hy=> ?_⟩ fun c hc=> ?_
    ·rcases List.mem_append.1 hy with hy|hy
     ·exact a6 y hy
     ·exact (elemsQ_ok a2 _).2 y hy
    ·have hm:c∈t:=by
      cases t with
      |nil=>cases hc
      |cons d t=>
       cases hc
       simp
     have:=hx (c:Int) (by unfold sv;exact List.mem_map.2 ⟨c,hm,rfl⟩)
     exact sgnK_no (by omega) (by omega)
theorem applyQ_keep: ∀(l:List RulI) {T:List Ent} {a:List Nat} {b:Bool},InvT T a→KeepT T→(∀x∈l,ruleAM x)→(applyQ T a b l).1=0→KeepT (applyQ T a b l).2
 | [],T,a,b,_,hk,_,h0=>by
   unfold applyQ
   split<;>exact hk
 |x::l,T,a,b,h,hk,hx,h0=>by
  unfold applyQ at h0⊢
  split at h0
  ·cases h0
  ·rename_i hb
   rw [if_neg hb]
   split at h0
   ·rename_i hc
    exact absurd h0 hc
   ·rename_i hc
    rw [if_neg hc]
    have hc:(ruleQ T a x).1=0:=Classical.not_not.1 hc
    have h15:1≤x.rel∧x.rel≤5:=by
     unfold relOk at hb
     simp at hb
     omega
    exact applyQ_keep l (ruleQ_ok h x hc) (ruleQ_keep h hk x (hx x (by simp)) h15 hc) (fun y hy=>hx y (by simp [hy])) h0
theorem longK {T:List Ent} (h:KeepT T) {s:List Nat} {i c:Nat} (hc:s[i]? =some c) (hk:sgnK c=true): ∀n,1≤n→n≤s.length-i→longE T s i n=some ([gK T c],1)
 |0,h0,_=>by omega
 |1,_,_=>by
  refine Ux.longE_some (by omega) ?_
  rw [Ux.drop_get hc]
  exact (h.each c hk).1
 |n+2,_,hn=>by
  rw [Ux.longE_none (n:=n+2) (by omega) ?_]
  ·exact longK h hc hk (n+1) (by omega) (by omega)
  ·cases hf:findE T ((s.drop i).take (n+2)) with
   |none=>rfl
   |some l=>
    exfalso
    have hm:=Ux.findE_some hf
    have hd:(s.drop i).take (n+2)=c::(s.drop (i+1)).take (n+1):=by rw [Ux.drop_get hc];rfl
    have:=h.one _ hm c _ hd hk
    have hl:((s.drop (i+1)).take (n+1)).length=n+1:=by rw [List.length_take,List.length_drop];omega
    rw [this] at hl
    cases hl
theorem elemsK {T:List Ent} (h:KeepT T) {s:List Nat} (hs: ∀c∈s,sgnK c=true):elemsE T s=s.map (gK T):=by
 have key: ∀k i,i+k=s.length→ofE T s i k=(s.drop i).map (gK T):=by
  intro k
  induction k with
  |zero=>intro i hi;rw [List.drop_eq_nil_of_le (by omega)];rfl
  |succ k ih=>
   intro i hi
   obtain ⟨c,hc⟩: ∃c,s[i]? =some c:=⟨_,List.getElem?_eq_getElem (by omega)⟩
   have ha:atE T s i=([gK T c],1):=by
    unfold atE
    rw [longK h hc (hs c (List.mem_of_getElem? hc)) _ (by omega) (by omega)]
    rfl
   unfold ofE
   rw [if_neg (by omega),ha]
   dsimp only
   rw [ih (i+1) (by omega),Ux.drop_get hc]
   rfl
 unfold elemsE
 rw [key s.length 0 (by omega),List.drop_zero]
theorem wfK {T:List Ent} (h:KeepT T) {L:Nat} (hL:L=1∨L=2∨L=3): ∀{s:List Nat},(∀c∈s,sgnK c=true)→wF false L (s.map (gK T))=s.map fun c=>wt8 L (gK T c)
 | [],_=>rfl
 |c::s,hs=>by
  have h1:=(h.each c (hs c (by simp))).2.2 L hL
  rw [List.map_cons,List.map_cons,Ux.wF_cons,wfK h hL fun d hd=>hs d (by simp [hd])]
  have:keepW false L (gK T c)=true:=by unfold keepW;simp;omega
  rw [this]
  rfl
theorem cmpK {f g:Nat→Nat} (h: ∀c d,sgnK c=true→sgnK d=true→(f c<f d↔g c<g d)): ∀{a b:List Nat},(∀c∈a,sgnK c=true)→(∀c∈b,sgnK c=true)→cmpL (sv (a.map f)) (sv (b.map f))=cmpL (sv (a.map g)) (sv (b.map g))
 | [],[],_,_=>rfl
 | [],_::_,_,_=>rfl
 |_::_,[],_,_=>rfl
 |c::a,d::b,ha,hb=>by
  have ih:=cmpK h (a:=a) (b:=b) (fun e he=>ha e (by simp [he])) fun e he=>hb e (by simp [he])
  have h1:=h c d (ha c (by simp)) (hb d (by simp))
  have h2:=h d c (hb d (by simp)) (ha c (by simp))
  have hI:cmpI (f c:Nat) (f d:Nat)=cmpI (g c:Nat) (g d:Nat):=by
   unfold cmpI
   by_cases e1:f c<f d
   ·have e2:=h1.1 e1
    rw [if_pos (by omega),if_pos (by omega)]
   ·have e3:=mt h1.2 e1
    rw [if_neg (by omega),if_neg (show¬((g c:Nat):Int)<(g d:Nat) by omega)]
    by_cases e2:f d<f c
    ·have e4:=h2.1 e2
     rw [if_pos (by omega),if_pos (by omega)]
    ·have e4:=mt h2.2 e2
     rw [if_neg (by omega),if_neg (show¬((g d:Nat):Int)<(g c:Nat) by omega)]
  show (if cmpI (f c:Nat) (f d:Nat)=0 then cmpL (sv (a.map f)) (sv (b.map f)) else cmpI (f c:Nat) (f d:Nat))=if cmpI (g c:Nat) (g d:Nat)=0 then cmpL (sv (a.map g)) (sv (b.map g)) else cmpI (g c:Nat) (g d:Nat)
  rw [hI,ih]
theorem keep_cmp {T:List Ent} (h:KeepT T) {L:Nat} (hL:L=1∨L=2∨L=3) {a b:List Nat} (ha: ∀c∈a,sgnK c=true) (hb: ∀c∈b,sgnK c=true):
 cmpL (sv (wF false L (elemsE T a))) (sv (wF false L (elemsE T b)))=cmpL (sv (wF false L (elemsE (rootT 132) a))) (sv (wF false L (elemsE (rootT 132) b))):=by
 rw [elemsK h ha,elemsK h hb,elemsK KeepT.root ha,elemsK KeepT.root hb,wfK h hL ha,wfK h hL hb,wfK KeepT.root hL ha,wfK KeepT.root hL hb]
 exact cmpK (f:=fun c=>wt8 L (gK T c)) (g:=fun c=>wt8 L (gK (rootT 132) c)) (fun c d hc hd=>h.ord c d hc hd L hL) ha hb
end Go.Proofs.YtfccjaboicpohaaGreatDoor
namespace Go.Proofs.YtfccjaboicpohaaGreatDoor
open Go.RowKit
open Ux (Row Grow Ent sv ev iv elemsE wF wt8 keepW cmpL cmpI cmpL_drop cmpL_over cmpL_end)
open Ux.Sign (signs)
theorem keepF (lv x:Nat):keepW false lv x=decide (0<wt8 lv x):=by unfold keepW;simp
theorem wt_is8 (lv x:Nat):wt lv x=wt8 lv x:=rfl
set_option maxHeartbeats 16000000 in
set_option maxRecDepth 100000 in
theorem cmp7_ (B mb:Nat) (E:List Ent) (a b:ByteArray) (q:Nat) (hq:q=1∨q=2∨q=3) (Q:Int) (hQ:Q=q) (l1 l2:List Nat) (w:World) (hT:TableAt w B mb E) (hU:Tabs w) (ha:a.size≤1000000) (hb:b.size≤1000000) (h1:elemsE E (signs a.data.toList)=l1) (h2:elemsE E (signs b.data.toList)=l2)
 (hx1: ∀x∈l1,x<4294967296) (hx2: ∀x∈l2,x<4294967296) (hn1:l1.length≤10000000) (hn2:l2.length≤10000000):
 Calls Tryz.prog 16 #[.pointer (some ⟨B,0,none⟩),.string a,.string b,.int .i64 Q] w fun e w'=>e= .returned (.int .i64 (cmpL (sv (wF false q l1)) (sv (wF false q l2))))∧Ux.Touch (fun _=>False) w w':=by
 have HE1:=Lib.hid fun W (T:Ux.Touch (fun _=>False) w W)=>elements_ B mb E a W (hT.touch0 T) (hU.touch T) (by omega)
 have HE2:=Lib.hid fun W (T:Ux.Touch (fun _=>False) w W)=>elements_ B mb E b W (hT.touch0 T) (hU.touch T) (by omega)
 rw [h1] at HE1
 rw [h2] at HE2
 obtain ⟨n1,e1⟩: ∃n,l1.length=n:=⟨_,rfl⟩
 obtain ⟨n2,e2⟩: ∃n,l2.length=n:=⟨_,rfl⟩
 have b1:(n1:Int)≤10000000:=by omega
 have b2:(n2:Int)≤10000000:=by omega
 have HH:=Lib.hid (And.intro hx1 (And.intro hx2 (And.intro e1 e2)))
 have HW:=Lib.hid fun (x:Nat) (hx:x<4294967296) W=>weight_ q x Q hQ hq hx W
 obtain ⟨R,hR⟩: ∃R,cmpL (sv (wF false q l1)) (sv (wF false q l2))=R:=⟨_,rfl⟩
 rw [hR]
 have HR:=Lib.hid hR
 clear hT hU ha hb h1 h2 hx1 hx2 hn1 hn2 e1 e2 hQ hq hR
 go_enter Tryz.func16,Tryz.ntmps16
 go_wp2_with (go_at_call 43;fail)
 refine (HE1.out w (Ux.Touch.refl _ _)).mono ?_
 rintro e w1 ⟨u1,rfl,hu1,T1⟩
 have H1:=Lib.hid (And.intro hu1 T1)
 obtain ⟨a1,c1,rfl,_⟩:=hu1.is
 rw [Ux.ev_length,HH.out.2.2.1] at H1⊢
 clear hu1 T1
 go_wp2_with (go_at_call 43;fail)
 refine (HE2.out w1 H1.out.2).mono ?_
 rintro e w2 ⟨u2,rfl,hu2,T2⟩
 have H2:=Lib.hid (And.intro hu2 (And.intro (H1.out.1.touch0 T2) (H1.out.2.trans T2 fun _ _ f=>f)))
 obtain ⟨a2,c2,rfl,_⟩:=hu2.is
 rw [Ux.ev_length,HH.out.2.2.2] at H2⊢
 clear hu2 T2
 go_wp2_with (fail)
 go_loopg [11,13] n1 (fun gk s11 s13 wr=> ∃i:Nat,s13= .int .i64 i∧i+gk=n1∧Hid (Grow wr w2.heap.size 3 s11 (iv (sv (wF false q (l1.take i))))∧Ux.Touch (fun _=>False) w2 wr))
 case atStart=>exact ⟨0,rfl,by omega,Lib.hid ⟨Grow.nil _ _ _,Ux.Touch.refl _ _⟩⟩
 case round=>
  obtain ⟨i,rfl,hig,HI⟩:=hrel
  have i0:(0:Int)≤i:=by omega
  by_cases hlt:i<n1
  ·obtain ⟨g',rfl⟩: ∃g',gk=g'+1:=⟨gk-1,by omega⟩
   have i1:(i:Int)<n1:=by omega
   obtain ⟨x,hx⟩: ∃x,l1[i]? =some x:=⟨_,List.getElem?_eq_getElem (by have:=HH.out.2.2.1;omega)⟩
   obtain ⟨g,rfl,_,hc⟩:=(H2.out.2.1.touch0 HI.out.2).at (Ux.ev_get hx)
   have htk:l1.take (i+1)=l1.take i++ [x]:=by rw [List.take_add_one,hx];rfl
   have HWX:=Lib.hid fun W=>HW.out x (HH.out.1 x (List.mem_of_getElem? hx)) W
   rw [wt_is8] at HWX
   obtain ⟨y,hy⟩: ∃y,wt8 q x=y:=⟨_,rfl⟩
   have hkeep:keepW false q x=decide (0<y):=by rw [keepF,hy]
   rw [hy] at HWX
   have HX:=Lib.hid (And.intro htk (And.intro hkeep hy))
   clear hx htk hlt hkeep hy
   go_wp2_with (go_at_call 44;fail)
   refine (HWX.out wr).mono ?_
   rintro e w' ⟨rfl,hw⟩
   obtain rfl:wr=w':=hw.symm
   clear hc
   by_cases hy0:y=0
   ·subst hy0
    go_wp2
    go_roundg g'
    case measure=>omega
    case rel=>
     refine ⟨i+1,by congr 1,by omega,Lib.hid ⟨?_,HI.out.2⟩⟩
     rw [HX.out.1,Ux.wF_snoc,HX.out.2.1,if_neg (by decide),List.append_nil]
     exact HI.out.1
   ·have q0:((y:Int)==0)=false:=by simpa using hy0
    have q1:decide (0<y)=true:=by simp;omega
    have HQ1:=Lib.hid q1
    have hsz:(wF false q (l1.take i)).length≤i:=Nat.le_trans (Ux.wF_len _ _ _) (by simp;omega)
    obtain ⟨r,w3,hrun,hG2,hT3⟩:=appI HI.out.1 1 [Value.int .i64 (y:Int)] rfl (fun u hu=>by rw [List.mem_singleton.1 hu];rfl) HI.out.2.size (by rw [Ux.iv_length,Ux.sv_length];omega)
    have HR2:=Lib.hid (And.intro hrun (And.intro hG2 hT3))
    clear hsz hrun hG2 hT3 q1 hy0
    go_wp2_with (at_builtin;refine Ux.wpList_app (v1:=u11) (x1:= .slice (some ⟨_,0,none⟩) 1 1) rfl _ _ _ _ rfl rfl rfl (HR2.out.1 _) ?_)
    go_roundg g'
    case measure=>omega
    case rel=>
     refine ⟨i+1,by congr 1,by omega,Lib.hid ⟨?_,?_⟩⟩
     ·rw [HX.out.1,Ux.wF_snoc,HX.out.2.1,HQ1.out,if_pos rfl,Ux.sv_append,show∀a b,iv (a++b)=iv a++iv b from fun a b=>List.map_append,HX.out.2.2]
      exact HR2.out.2.1
     ·exact Ux.Touch.own HI.out.2 (Nat.le_refl _) HR2.out.2.2
  ·obtain rfl:i=n1:=by omega
   have i1: ¬(i:Int)<i:=by omega
   have hwl:wF false q (l1.take i)=wF false q l1:=by rw [List.take_of_length_le (by have:=HH.out.2.2.1;omega)]
   rw [hwl] at HI
   obtain ⟨X1,hX1⟩: ∃X,sv (wF false q l1)=X:=⟨_,rfl⟩
   obtain ⟨X2,hX2⟩: ∃X,sv (wF false q l2)=X:=⟨_,rfl⟩
   have hm1:X1.length≤10000000:=by rw [←hX1,Ux.sv_length];have:=Ux.wF_len false q l1;have:=HH.out.2.2.1;omega
   have hm2:X2.length≤10000000:=by rw [←hX2,Ux.sv_length];have:=Ux.wF_len false q l2;have:=HH.out.2.2.2;omega
   have hRR:=HR.out
   rw [hX1,hX2] at hRR
   rw [hX1] at HI
   have HG1:=HI.out.1.row
   obtain ⟨a3,c3,rfl,_⟩:=HG1.is
   rw [Ux.iv_length] at HI HG1⊢
   obtain ⟨m1,e3⟩: ∃n,X1.length=n:=⟨_,rfl⟩
   obtain ⟨m2,e4⟩: ∃n,X2.length=n:=⟨_,rfl⟩
   rw [e3] at HI hm1 HG1⊢
   have H3:=Lib.hid (And.intro HG1 (And.intro (H2.out.1.touch0 HI.out.2) (H2.out.2.2.trans HI.out.2 fun _ _ f=>f)))
   have HX:=Lib.hid (And.intro hX2 (And.intro e3 (And.intro e4 hRR)))
   have b3:(m1:Int)≤10000000:=by omega
   have b4:(m2:Int)≤10000000:=by omega
   clear hwl hX1 hX2 hm1 hm2 hRR HG1 e3 e4 HI hlt
   go_wp2_with (fail)
   obtain ⟨w3,hw3⟩: ∃w,wr=w:=⟨_,rfl⟩
   rw [hw3] at H3
   go_loopg [12,15] n2 (fun gk s12 s15 wr=> ∃j:Nat,s15= .int .i64 j∧j+gk=n2∧Hid (Grow wr w3.heap.size 3 s12 (iv (sv (wF false q (l2.take j))))∧Ux.Touch (fun _=>False) w3 wr))
   case atStart=>
    subst hw3
    exact ⟨0,rfl,by omega,Lib.hid ⟨Grow.nil _ _ _,Ux.Touch.refl _ _⟩⟩
   case round=>
    clear hw3
    obtain ⟨j,rfl,hjg,HI⟩:=hrel
    have j0:(0:Int)≤j:=by omega
    by_cases hlt:j<n2
    ·obtain ⟨g',rfl⟩: ∃g',gk=g'+1:=⟨gk-1,by omega⟩
     have j1:(j:Int)<n2:=by omega
     obtain ⟨x,hx⟩: ∃x,l2[j]? =some x:=⟨_,List.getElem?_eq_getElem (by have:=HH.out.2.2.2;omega)⟩
     obtain ⟨g,rfl,_,hc⟩:=(H3.out.2.1.touch0 HI.out.2).at (Ux.ev_get hx)
     have htk:l2.take (j+1)=l2.take j++ [x]:=by rw [List.take_add_one,hx];rfl
     have HWX:=Lib.hid fun W=>HW.out x (HH.out.2.1 x (List.mem_of_getElem? hx)) W
     rw [wt_is8] at HWX
     obtain ⟨y,hy⟩: ∃y,wt8 q x=y:=⟨_,rfl⟩
     have hkeep:keepW false q x=decide (0<y):=by rw [keepF,hy]
     rw [hy] at HWX
     have HX2:=Lib.hid (And.intro htk (And.intro hkeep hy))
     clear hx htk hlt hkeep hy
     go_wp2_with (go_at_call 44;fail)
     refine (HWX.out wr).mono ?_
     rintro e w' ⟨rfl,hw⟩
     obtain rfl:wr=w':=hw.symm
     clear hc
     by_cases hy0:y=0
     ·subst hy0
      go_wp2
      go_roundg g'
      case measure=>omega
      case rel=>
       refine ⟨j+1,by congr 1,by omega,Lib.hid ⟨?_,HI.out.2⟩⟩
       rw [HX2.out.1,Ux.wF_snoc,HX2.out.2.1,if_neg (by decide),List.append_nil]
       exact HI.out.1
     ·have q0:((y:Int)==0)=false:=by simpa using hy0
      have q1:decide (0<y)=true:=by simp;omega
      have HQ1:=Lib.hid q1
      have hsz:(wF false q (l2.take j)).length≤j:=Nat.le_trans (Ux.wF_len _ _ _) (by simp;omega)
      obtain ⟨r,w4,hrun,hG2,hT3⟩:=appI HI.out.1 1 [Value.int .i64 (y:Int)] rfl (fun u hu=>by rw [List.mem_singleton.1 hu];rfl) HI.out.2.size (by rw [Ux.iv_length,Ux.sv_length];omega)
      have HR2:=Lib.hid (And.intro hrun (And.intro hG2 hT3))
      clear hsz hrun hG2 hT3 q1 hy0
      go_wp2_with (at_builtin;refine Ux.wpList_app (v1:=u12) (x1:= .slice (some ⟨_,0,none⟩) 1 1) rfl _ _ _ _ rfl rfl rfl (HR2.out.1 _) ?_)
      go_roundg g'
      case measure=>omega
      case rel=>
       refine ⟨j+1,by congr 1,by omega,Lib.hid ⟨?_,?_⟩⟩
       ·rw [HX2.out.1,Ux.wF_snoc,HX2.out.2.1,HQ1.out,if_pos rfl,Ux.sv_append,show∀a b,iv (a++b)=iv a++iv b from fun a b=>List.map_append,HX2.out.2.2]
        exact HR2.out.2.1
       ·exact Ux.Touch.own HI.out.2 (Nat.le_refl _) HR2.out.2.2
    ·obtain rfl:j=n2:=by omega
     have j1: ¬(j:Int)<j:=by omega
     have hwl:wF false q (l2.take j)=wF false q l2:=by rw [List.take_of_length_le (by have:=HH.out.2.2.2;omega)]
     rw [hwl,HX.out.1] at HI
     have HG2:=HI.out.1.row
     obtain ⟨a4,c4,rfl,hc4⟩:=HG2.is
     obtain ⟨_,_,e5,hc3⟩:=(H3.out.1.touch0 HI.out.2).is
     rw [Ux.iv_length,HX.out.2.1] at e5
     cases e5
     rw [Ux.iv_length,HX.out.2.2.1] at HI⊢
     have HC:=Lib.hid (And.intro hc3 (And.intro hc4 (H3.out.2.2.trans HI.out.2 fun _ _ f=>f)))
     clear hwl HG2 hc3 hc4 HI hlt
     go_wp2_with (fail)
     obtain ⟨w4,hw4⟩: ∃w,wr=w:=⟨_,rfl⟩
     rw [hw4] at HC
     go_loopg [17] (min m1 m2) (fun gk s17 wr=> ∃k:Nat,s17= .int .i64 k∧k+gk=min m1 m2∧Hid (cmpL (X1.drop k) (X2.drop k)=R∧Ux.Touch (fun _=>False) w4 wr))
     case atStart=>
      subst hw4
      exact ⟨0,rfl,by omega,Lib.hid ⟨HX.out.2.2.2,Ux.Touch.refl _ _⟩⟩
     case round=>
      clear hw4
      obtain ⟨k,rfl,hkg,HI⟩:=hrel
      have k0:(0:Int)≤k:=by omega
      by_cases hlt:k<m1∧k<m2
      ·obtain ⟨g',rfl⟩: ∃g',gk=g'+1:=⟨gk-1,by omega⟩
       have p1:(k:Int)<m1:=by omega
       have p2:(k:Int)<m2:=by omega
       have p3:decide ((k:Int)<m1)=true:=by simp;omega
       have p4:decide ((k:Int)<m2)=true:=by simp;omega
       have p5:decide (k<m1)=true:=by simp;omega
       have p6:decide (k<m2)=true:=by simp;omega
       obtain ⟨x,hx⟩: ∃x,X1[k]? =some x:=⟨_,List.getElem?_eq_getElem (by have:=HX.out.2.1;omega)⟩
       obtain ⟨y,hy⟩: ∃y,X2[k]? =some y:=⟨_,List.getElem?_eq_getElem (by have:=HX.out.2.2.1;omega)⟩
       obtain ⟨ga,rfl,_,d0⟩:=HC.out.1 k _ (Ux.iv_get hx)
       obtain ⟨gb,rfl,_,d1⟩:=HC.out.2.1 k _ (Ux.iv_get hy)
       have HCC:=Lib.hid fun W (T2:Ux.Touch (fun _=>False) w4 W)=>And.intro (T2.cell d0 (fun f=>f)) (T2.cell d1 (fun f=>f))
       have HD:=Lib.hid (cmpL_drop hx hy)
       clear hx hy hlt d0 d1
       obtain ⟨d0,d1⟩:=HCC.out wr HI.out.2
       go_upto_region 18 with (fail)
       refine Ux.wpr (fun _ w'=>w'.cell? ⟨ga,k,none⟩=some (.int .i64 x)∧w'.cell? ⟨gb,k,none⟩=some (.int .i64 y)) (.q [0,1,2,4,5,6] (.h false [3,7] (.q [8] (.line [])))) ?_;repeat ((with_reducible refine Ux.qg ?_);refine Ux.qu ?_)
       clear d0 d1
       have hxy:x<y∨y<x∨x=y:=by omega
       rcases hxy with h|h|rfl
       ·have hc:cmpI x y= -1:=by unfold cmpI;rw [if_pos h]
        have HXC:=Lib.hid hc
        have h2:(x !=y)=true:=by simp;omega
        clear hc
        repeat ((with_reducible refine Ux.qg ?_);refine Ux.qu ?_)
        go_upto_region 19 with (fail)
        obtain ⟨d0,d1⟩:=HCC.out wr.drew HI.out.2.drew
        refine Ux.wpr (fun _ w'=>w'.cell? ⟨ga,k,none⟩=some (.int .i64 x)∧w'.cell? ⟨gb,k,none⟩=some (.int .i64 y)) (.q [0,1,2,4,5,6] (.h false [3,7] (.q [8] (.line [])))) ?_;repeat ((with_reducible refine Ux.qg ?_);refine Ux.qu ?_)
        clear d0 d1
        repeat ((with_reducible refine Ux.qg ?_);refine Ux.qu ?_)
        go_wp2
        go_returns
        refine ⟨?_,HC.out.2.2.trans HI.out.2.drew.drew fun _ _ f=>f⟩
        rw [←HI.out.1,HD.out,HXC.out,if_neg (by decide)]
        rfl
       ·have hc:cmpI x y=1:=by unfold cmpI;rw [if_neg (by omega),if_pos h]
        have HXC:=Lib.hid hc
        have h2:(x !=y)=true:=by simp;omega
        have h3: ¬x<y:=by omega
        clear hc
        repeat ((with_reducible refine Ux.qg ?_);refine Ux.qu ?_)
        go_upto_region 19 with (fail)
        obtain ⟨d0,d1⟩:=HCC.out wr.drew HI.out.2.drew
        refine Ux.wpr (fun _ w'=>w'.cell? ⟨ga,k,none⟩=some (.int .i64 x)∧w'.cell? ⟨gb,k,none⟩=some (.int .i64 y)) (.q [0,1,2,4,5,6] (.h false [3,7] (.q [8] (.line [])))) ?_;repeat ((with_reducible refine Ux.qg ?_);refine Ux.qu ?_)
        clear d0 d1
        repeat ((with_reducible refine Ux.qg ?_);refine Ux.qu ?_)
        go_wp2
        go_returns
        refine ⟨?_,HC.out.2.2.trans HI.out.2.drew.drew fun _ _ f=>f⟩
        rw [←HI.out.1,HD.out,HXC.out,if_neg (by decide)]
        rfl
       ·have h2:(x !=x)=false:=by simp
        repeat ((with_reducible refine Ux.qg ?_);refine Ux.qu ?_)
        go_wp2
        go_roundg g'
        case measure=>omega
        case rel=>
         refine ⟨k+1,by congr 1,by omega,Lib.hid ⟨?_,HI.out.2.drew⟩⟩
         rw [←HI.out.1,HD.out,if_pos (Ux.cmpI_zero.2 rfl)]
      ·have hk:k=min m1 m2:=by omega
       have h3:m1<m2∨m2<m1∨m1=m2:=by omega
       rcases h3 with h|h|h
       ·obtain rfl:k=m1:=by omega
        have p1: ¬(k:Int)<k:=by omega
        have p2:(k:Int)<m2:=by omega
        have hR:R= -1:=by
         rw [←HI.out.1,cmpL_end HX.out.2.1 (by have:=HX.out.2.2.1;omega),if_pos (by have:=HX.out.2.2.1;omega)]
        subst hR
        clear hlt hk
        go_wp2
        go_returns
        exact ⟨rfl,HC.out.2.2.trans HI.out.2 fun _ _ f=>f⟩
       ·obtain rfl:k=m2:=by omega
        have p1:(k:Int)<m1:=by omega
        have p2: ¬(k:Int)<k:=by omega
        have p3: ¬(m1:Int)<k:=by omega
        have p4:(m1:Int)>k:=by omega
        obtain ⟨x,hx⟩: ∃x,X1[k]? =some x:=⟨_,List.getElem?_eq_getElem (by have:=HX.out.2.1;omega)⟩
        have hR:R=1:=by rw [←HI.out.1,cmpL_over hx (by have:=HX.out.2.2.1;omega)]
        subst hR
        clear hlt hk hx
        go_wp2
        go_returns
        exact ⟨rfl,HC.out.2.2.trans HI.out.2 fun _ _ f=>f⟩
       ·subst h
        obtain rfl:k=m1:=by omega
        have p1: ¬(k:Int)<k:=by omega
        have p3: ¬(k:Int)>k:=by omega
        have hR:R=0:=by
         rw [←HI.out.1,cmpL_end HX.out.2.1 (by have:=HX.out.2.2.1;omega),if_neg (by have:=HX.out.2.2.1;omega)]
        subst hR
        clear hlt hk
        go_wp2
        go_returns
        exact ⟨rfl,HC.out.2.2.trans HI.out.2 fun _ _ f=>f⟩
end Go.Proofs.YtfccjaboicpohaaGreatDoor
