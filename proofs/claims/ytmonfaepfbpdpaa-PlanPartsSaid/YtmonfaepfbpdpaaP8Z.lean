/- A part of the proof that the statement holds for every input that it names. No other condition. -/
import Derived.Test.YtmonfaepfbpdpaaUxTabAZ
import Derived.Test.YtmonfaepfbpdpaaPsBZ
set_option linter.unusedVariables false
set_option linter.unusedSimpArgs false
namespace Go.Proofs.Ytmonfaepfbpdpaa
open Go.RowKit
open Ux (i64B ND NRows nodV Nod)
open Ux (KGrow)
theorem infoN:(Try.prog.info? 24).map (fun i=>(i.zero,i.size,i.bytes))=some (some (.agg #[.int .i64 0,.int .i64 0,.string ⟨#[]⟩,.string ⟨#[]⟩,.int .i64 0,.slice none 0 0]),6,80):=by kernel_rfl
def NL (w:World) (A:Nat→Prop) (xs:List Value) (k:Nat):Prop:= ∀i,i<k→∃y0 y1 y2 y3 y4 y5,xs[i*6]? =some y0∧xs[i*6+1]? =some y1∧xs[i*6+2]? =some y2∧xs[i*6+3]? =some y3∧xs[i*6+4]? =some y4∧xs[i*6+5]? =some y5∧NP w A (.agg #[y0,y1,y2,y3,y4,y5])
theorem NL.touch {R A:Nat→Prop} {w w':World} {xs:List Value} {k:Nat} (h:NL w A xs k) (T:Ux.Touch R w w') (hR: ∀g,g<w.heap.size→A g→¬R g):NL w' A xs k:=fun i hi=>by
 obtain ⟨y0,y1,y2,y3,y4,y5,h0,h1,h2,h3,h4,h5,hn⟩:=h i hi
 exact ⟨y0,y1,y2,y3,y4,y5,h0,h1,h2,h3,h4,h5,hn.touch T hR⟩
theorem NL.mono {A A':Nat→Prop} {w:World} {xs:List Value} {k:Nat} (h:NL w A xs k) (hA: ∀g,g<w.heap.size→A g→A' g):NL w A' xs k:=fun i hi=>by
 obtain ⟨y0,y1,y2,y3,y4,y5,h0,h1,h2,h3,h4,h5,hn⟩:=h i hi
 exact ⟨y0,y1,y2,y3,y4,y5,h0,h1,h2,h3,h4,h5,hn.mono hA⟩
theorem NL.append {A:Nat→Prop} {w:World} {xs ys:List Value} {k m:Nat} (h:NL w A xs k) (hx:xs.length=k*6) (h2:NL w A ys m):NL w A (xs++ys) (k+m):=fun i hi=>by
 by_cases hk:i<k
 ·obtain ⟨y0,y1,y2,y3,y4,y5,h0,h1,h2,h3,h4,h5,hn⟩:=h i hk
  have key: ∀j y,xs[j]? =some y→(xs++ys)[j]? =some y:=fun j y hj=>by
   rw [List.getElem?_append_left (List.getElem?_eq_some_iff.1 hj).1]
   exact hj
  exact ⟨y0,y1,y2,y3,y4,y5,key _ _ h0,key _ _ h1,key _ _ h2,key _ _ h3,key _ _ h4,key _ _ h5,hn⟩
 ·obtain ⟨y0,y1,y2,y3,y4,y5,h0,h1,h2,h3,h4,h5,hn⟩:=h2 (i-k) (by omega)
  have key: ∀d y,ys[(i-k)*6+d]? =some y→(xs++ys)[i*6+d]? =some y:=fun d y hj=>by
   rw [List.getElem?_append_right (by omega),hx,show i*6+d-k*6=(i-k)*6+d by omega]
   exact hj
  exact ⟨y0,y1,y2,y3,y4,y5,key 0 _ h0,key 1 _ h1,key 2 _ h2,key 3 _ h3,key 4 _ h4,key 5 _ h5,hn⟩
theorem NL.one {A:Nat→Prop} {w:World} {y0 y1 y2 y3 y4 y5:Value} (h:NP w A (.agg #[y0,y1,y2,y3,y4,y5])):NL w A [y0,y1,y2,y3,y4,y5] 1:=fun i hi=>by
 obtain rfl:i=0:=by omega
 exact ⟨y0,y1,y2,y3,y4,y5,rfl,rfl,rfl,rfl,rfl,rfl,h⟩
theorem NL.one_cells {A:Nat→Prop} {w:World} {xs:List Value} {k:Nat} (h:NL w A xs k) (hx:xs.length=k*6): ∀u∈xs,u.oneCell'=true:=fun u hu=>by
 obtain ⟨j,hj,rfl⟩:=List.mem_iff_getElem.1 hu
 obtain ⟨y0,y1,y2,y3,y4,y5,h0,h1,h2,h3,h4,h5,hn⟩:=h (j/6) (by omega)
 obtain ⟨a0,a1,a2,a3,a4,a5,a6,a7,e⟩:=hn.six
 cases e
 have hm:j % 6=0∨j % 6=1∨j % 6=2∨j % 6=3∨j % 6=4∨j % 6=5:=by omega
 have key: ∀d y,j % 6=d→xs[j/6*6+d]? =some y→xs[j]=y:=fun d y hd hy=>by
  have e:j/6*6+d=j:=by omega
  rw [e,List.getElem?_eq_getElem hj] at hy
  exact Option.some.inj hy
 rcases hm with hm|hm|hm|hm|hm|hm
 ·rw [key 0 _ hm h0];rfl
 ·rw [key 1 _ hm h1];rfl
 ·rw [key 2 _ hm h2];rfl
 ·rw [key 3 _ hm h3];rfl
 ·rw [key 4 _ hm h4];rfl
 ·rw [key 5 _ hm h5];rfl
def NG (w:World) (lo:Nat) (A:Nat→Prop) (v:Value) (k:Nat):Prop:= ∃xs,KGrow w lo 24 6 v k xs∧NL w A xs k
theorem NG.nil (w:World) (lo:Nat) (A:Nat→Prop):NG w lo A (.slice none 0 0) 0:=⟨[],KGrow.nil _ _ _ _,fun i hi=>by omega⟩
theorem NG.touch {R A:Nat→Prop} {w w':World} {lo:Nat} {v:Value} {k:Nat} (h:NG w lo A v k) (T:Ux.Touch R w w') (hR: ∀g,g<w.heap.size→(A g∨lo≤g)→¬R g):NG w' lo A v k:=by
 obtain ⟨xs,h1,h2⟩:=h
 exact ⟨xs,⟨Ux.own_touch h1.1 T fun b hb=>hR b (Ux.own_lt h1.1 b hb) (.inr (h1.2 b hb)),h1.2⟩,h2.touch T fun g h3 h4=>hR g h3 (.inl h4)⟩
theorem NG.mono {A A':Nat→Prop} {w:World} {lo lo':Nat} {v:Value} {k:Nat} (h:NG w lo A v k) (hl:lo'≤lo) (hA: ∀g,g<w.heap.size→A g→A' g):NG w lo' A' v k:=by
 obtain ⟨xs,h1,h2⟩:=h
 exact ⟨xs,h1.mono hl,h2.mono hA⟩
theorem NG.app {A:Nat→Prop} {w:World} {lo:Nat} {v:Value} {k:Nat} (h:NG w lo A v k) (u:Value) (m:Nat) (ys:List Value) (hs:Src Try.prog 6 22 u m ys w) (hy:NL w A ys m) (hA: ∀g,g<w.heap.size→A g→v.ownBlock≠some g) (hlo:lo≤w.heap.size) (hk:k≤10000) (hm:m≤10000):
 ∃r w',(∀ty,(Builtin.append_ #[22,22] ty #[v,u]).run Try.prog w= .ok r w')∧NG w' lo (fun g=>A g∧r.ownBlock≠some g) r (k+m)∧Ux.Touch (fun b=>lo≤b∧v.ownBlock=some b) w w':=by
 obtain ⟨xs,h1,h2⟩:=h
 obtain ⟨r,w',e1,e2,e3,e4⟩:=h1.app' (P:=Try.prog) 22 80 _ Try.underlying22 infoN rfl (by omega) u m ys hs hlo (by simp only [maxLen];omega) (by omega)
 refine ⟨r,w',e1,⟨xs++ys,e2,((h2.append h1.len hy).mono (A':=fun g=>A g∧r.ownBlock≠some g) fun g h3 h4=>⟨h4,fun h6=> ?_⟩).touch e3 fun g h3 h4 h5=>hA g h3 h4.1 h5.2⟩,e3⟩
 rcases e4 with e|⟨g',e,hg⟩
 ·rw [e] at h6
  exact hA g h3 h4 h6
 ·rw [e] at h6
  cases h6
  omega
theorem NP.grown {w:World} {lo:Nat} {A:Nat→Prop} {ua:Option Addr} {un uc:Nat} (h:NG w lo A (.slice ua un uc) un) (hlo: ∀g,lo≤g→A g) (hb:un≤100000) (k o m:Int) (s t:ByteArray) (hk:i64B k) (ho:i64B o) (hm:i64B m) (hs:s.size≤4000) (ht:t.size≤4000):NP w A (.agg #[.int .i64 k,.int .i64 o,.string s,.string t,.int .i64 m,.slice ua un uc]):=by
 obtain ⟨xs,h1,h2⟩:=h
 refine NP.node k o m s t hk ho hm hs ht ua un uc h1.cap hb fun i hi=> ?_
 obtain ⟨y0,y1,y2,y3,y4,y5,e0,e1,e2,e3,e4,e5,hn⟩:=h2 i hi
 obtain ⟨a',c',e,hc⟩:=h1.is
 cases e
 obtain ⟨g,rfl,hg,c0⟩:=hc _ _ e0
 have key: ∀j y,xs[j]? =some y→w.cell? ⟨g,0+j,none⟩=some y:=fun j y hj=>by
  obtain ⟨g',e',_,c⟩:=hc _ _ hj
  cases e'
  rw [Nat.zero_add]
  exact c
 have hgl:g<w.heap.size:=Ux.own_lt h1.1 g rfl
 have e0:=key _ _ e0
 have e1:=key _ _ e1
 have e2:=key _ _ e2
 have e3:=key _ _ e3
 have e4:=key _ _ e4
 have e5:=key _ _ e5
 exact ⟨_,⟨g,0,y0,y1,y2,y3,y4,y5,rfl,hlo g hg,hgl,rfl,e0,e1,e2,e3,e4,e5⟩,hn⟩
set_option maxHeartbeats 8000000 in
set_option maxRecDepth 100000 in
theorem list_ (q:Nat) (a:Option Addr) (n c m:Nat) (HS0: ∀m',m'<m→ReadC 30 q a n c m' #[.int .i64 1]) (I E D:Nat) (w:World) (h:PS w q a n c I E D) (hm:E≠0∨n-I≤m):
 Calls Try.prog 54 #[.pointer (some ⟨q,0,none⟩)] w fun e w'=> ∃ua un uc,e= .returned (.slice ua un uc)∧(NG w' w.heap.size (fun g=>w.heap.size≤g∧(Value.slice ua un uc).ownBlock≠some g) (.slice ua un uc) un∧un≤4001)∧ExpS w' q a n c I E D∧Ux.Touch (fun b=>b=q) w w':=by
 have hqq:=h.lt
 obtain ⟨d0,d1,d2,d4⟩:=h.cells
 have HP:=Lib.hid (And.intro h (And.intro hqq HS0))
 by_cases hE:E=0
 ·subst hE
  have hm:n-I≤m:=by omega
  have HIS:=Lib.hid (is_ q a n c I 0 D ⟨#[40]⟩ w h)
  have HM:=Lib.hid hm
  clear h hm HS0 hqq d0 d1 d4
  go_enter Try.func54,Try.ntmps54
  go_wp2_with (go_at_call 36;fail)
  refine HIS.out.mono ?_
  rintro e w2 ⟨b,rfl,hb,T2⟩
  have hps2:=HP.out.1.touch0 T2
  have H2:=Lib.hid (And.intro hb (And.intro hps2 T2))
  clear hb hps2 T2 d2
  cases b with
  |false=>
   have HF:=Lib.hid (fail_ q a n c I 0 D 10 (by decide) 10 rfl w2 H2.out.2.1)
   go_wp2_with (go_at_call 31;fail)
   refine HF.out.mono ?_
   rintro e w3 ⟨rfl,h3,T3⟩
   have H3:=Lib.hid (And.intro h3 ((H2.out.2.2.mono (fun _ _ f=>f.elim):Ux.Touch (fun b=>b=q) w w2).trans T3 fun _ _ e=>e))
   clear h3 T3
   go_wp2_with (fail)
   go_returns
   exact ⟨_,_,_,rfl,⟨NG.nil _ _ _,Nat.zero_le _⟩,⟨I,_,(fun h=>by cases h),H3.out.1⟩,H3.out.2⟩
  |true=>
   have hlt:I<n:=H2.out.1 (by simp)
   have HIN:=Lib.hid (in_ q a n c I 0 D w2 H2.out.2.1)
   have HLT:=Lib.hid hlt
   clear hlt
   go_wp2_with (go_at_call 37;fail)
   refine HIN.out.mono ?_
   rintro e w3 ⟨b3,rfl,T3,hin⟩
   have H3:=Lib.hid (And.intro hin (And.intro T3 ((H2.out.2.2.mono (fun _ _ f=>f.elim):Ux.Touch (fun b=>b=q) w w2).trans T3 fun _ _ e=>e)))
   clear hin T3
   cases b3 with
   |false=>
    go_wp2_with (fail)
    go_returns
    obtain ⟨E',hE',hps'⟩:=inP_false H3.out.1
    exact ⟨_,_,_,rfl,⟨NG.nil _ _ _,Nat.zero_le _⟩,⟨I,E',(fun h=>absurd h hE'),hps'⟩,H3.out.2.2⟩
   |true=>
    obtain ⟨hD,hps3⟩:=inP_true H3.out.1
    obtain ⟨hps4,T4⟩:=hps3.setI (J:=I+1) HLT.out
    obtain ⟨_,d1,_,_⟩:=hps3.cells
    have f1:=hps3.frozen 1
    have i0:(0:Int)≤I:=by omega
    have i4:(I:Int)≤4000:=by have h1:=hps3.hn;have h2:=hps3.hI;omega
    obtain ⟨W4,hW4⟩: ∃W,w3.setCell ⟨q,1,none⟩ (.int .i64 ((I:Int)+1))=W:=⟨_,rfl⟩
    have hps4:PS W4 q a n c (I+1) 0 (D+1):=by rw [←hW4];exact hps4
    have T4:Ux.Touch (fun b=>b=q) w3 W4:=by rw [←hW4];exact T4
    have H4:=Lib.hid (And.intro hps4 (H3.out.2.2.trans T4 fun _ _ e=>e))
    clear hD hps3 hps4 T4
    go_wp2_with (fail)
    clear d1 f1 i0 i4 hW4
    go_loopg [3] (n+1) (fun gk s3 wr=> ∃(ua:Option Addr) (un uc I3 E3:Nat),s3= .slice ua un uc∧Hid (((un+gk≤n+1)∧(E3=0→n+1-I3≤gk∧I+1≤I3))∧PS wr q a n c I3 E3 (D+1))∧Hid (PS wr q a n c I3 E3 (D+1)∧NG wr w.heap.size (fun g=>w.heap.size≤g∧(Value.slice ua un uc).ownBlock≠some g) (.slice ua un uc) un∧Ux.Touch (fun b=>b=q) w wr))
    case atStart=>exact ⟨none,0,0,I+1,0,rfl,Lib.hid ⟨⟨by omega,fun _=>by omega⟩,H4.out.1⟩,Lib.hid ⟨H4.out.1,NG.nil _ _ _,H4.out.2⟩⟩
    case round=>
     obtain ⟨ua,un,uc,I3,E3,rfl,HG,HI⟩:=hrel
     obtain ⟨_,_,d2,_⟩:=HI.out.1.cells
     by_cases hE3:E3=0
     ·subst hE3
      have hlt:=HLT.out
      have hg3:=(HG.out.1.2 (by rfl))
      obtain ⟨g',rfl⟩: ∃g',gk=g'+1:=⟨gk-1,by have:=HI.out.1.hI;omega⟩
      have HS:=Lib.hid (HP.out.2.2 (n-I3) (by have:=HM.out;omega) wr I3 0 (D+1) HI.out.1 (.inr (Nat.le_refl _)))
      clear hlt hg3
      go_wp2_with (go_at_call 30;fail)
      refine HS.out.mono ?_
      rintro e w5 ⟨k,o,s,t,x,va,vn,vc,rfl,hnp,⟨I5,E5,hI5,hps5⟩,T5⟩
      have hsz:w.heap.size≤wr.heap.size:=HI.out.2.2.size
      have hs5:=T5.size
      obtain ⟨g9,hg9⟩: ∃X,w5.heap.size=X:=⟨_,rfl⟩
      obtain ⟨W6,hW6⟩: ∃W,w5.alloc (.cells #[.int .i64 k,.int .i64 o,.string s,.string t,.int .i64 x,.slice va vn vc] 24)=W:=⟨_,rfl⟩
      have t6:Ux.Touch (fun _=>False) w5 W6:=by rw [←hW6];exact (Ux.Touch.refl _ _).alloc _
      have hsrc:Src Try.prog 6 22 (.slice (some ⟨g9,0,none⟩) 1 1) 1 [.int .i64 k,.int .i64 o,.string s,.string t,.int .i64 x,.slice va vn vc] W6:=by
       rw [←hW6,←hg9]
       exact Ux.src_new Try.underlying22 w5 6 1 _ rfl (by simp [Value.oneCell'])
      have hA: ∀g,g<W6.heap.size→(w.heap.size≤g∧(Value.slice ua un uc).ownBlock≠some g)→(Value.slice ua un uc).ownBlock≠some g:=fun g _ h=>h.2
      have hq0:q<w.heap.size:=HP.out.2.1
      have hng:=(HI.out.2.1.touch T5 fun g _ h e=>by
       rcases h with h|h
       ·have:=h.1;omega
       ·omega).touch t6 fun _ _ _ f=>f
      have hown: ∀g,(Value.slice ua un uc).ownBlock=some g→g<wr.heap.size:=fun g hg=>by obtain ⟨xs,h1,_⟩:=HI.out.2.1;exact Ux.own_lt h1.1 g hg
      have hyl:NL W6 (fun g=>w.heap.size≤g∧(Value.slice ua un uc).ownBlock≠some g) [.int .i64 k,.int .i64 o,.string s,.string t,.int .i64 x,.slice va vn vc] 1:=NL.one ((hnp.touch0 t6).mono fun g _ h=>⟨by have h:wr.heap.size≤g:=h;omega,fun e=>by have h:wr.heap.size≤g:=h;have:=hown g e;omega⟩)
      obtain ⟨r,W7,hrun,hng7,t7⟩:=hng.app _ 1 _ hsrc hyl hA (by have:=t6.size;omega) (by have:=HG.out.1.1;have:=HI.out.1.hn;omega) (by omega)
      obtain ⟨ra,rc,rfl⟩: ∃ra rc,r= .slice ra (un+1) rc:=by obtain ⟨xs,h1,_⟩:=hng7;obtain ⟨a',c',e,_⟩:=h1.is;exact ⟨a',c',e⟩
      have hps7:=(hps5.touch0 t6).touch t7 fun b hb e=>by have:=e.1;omega
      have T57:Ux.Touch (fun b=>w.heap.size≤b) w5 W7:=(t6.mono (fun _ _ f=>f.elim):Ux.Touch (fun b=>w.heap.size≤b) w5 W6).trans t7 fun b hb e=>e.1
      have T07:Ux.Touch (fun b=>b=q) w W7:=(HI.out.2.2.trans T5 fun _ _ e=>e).trans T57 fun b hb e=>absurd e (by omega)
      have H7:=Lib.hid (And.intro hrun (And.intro hps7 (And.intro hI5 (And.intro T07 (hng7.mono (lo':=w.heap.size) (A':=fun g=>w.heap.size≤g∧(Value.slice ra (un+1) rc).ownBlock≠some g) (Nat.le_refl _) fun g _ h=>⟨h.1.1,h.2⟩)))))
      have HTK:=Lib.hid (take_ q a n c I5 E5 (D+1) ⟨#[44]⟩ W7 hps7)
      clear hnp hI5 hps5 T5 hsz hs5 t6 hsrc hA hng hown hyl hrun hng7 t7 hps7 T57 T07 hq0 d2
      go_wp2_with (at_builtin;refine Ux.wpList_app (v1:= .slice ua un uc) (x1:= .slice (some ⟨g9,0,none⟩) 1 1) rfl _ _ _ _ rfl rfl rfl (H7.out.1 _) ?_)
      clear hg9 hW6
      go_wp2_with (go_at_call 40;fail)
      refine HTK.out.mono ?_
      rintro e w8 ⟨b8,rfl,ht8,T8⟩
      have hng8:=H7.out.2.2.2.2.touch T8 fun g _ h e=>by
       have h1:q<w.heap.size:=HP.out.2.1
       rcases h with h|h
       ·have:=h.1;omega
       ·omega
      have H8:=Lib.hid (And.intro ht8 (And.intro hng8 (H7.out.2.2.2.1.trans T8 fun _ _ e=>e)))
      clear ht8 hng8 T8
      cases b8 with
      |true=>
       obtain ⟨hE5,hlt5,hps8⟩:=H8.out.1.true
       have hI5:=H7.out.2.2.1 hE5
       have H9:=Lib.hid (And.intro hE5 (And.intro hlt5 (And.intro hps8 hI5)))
       clear hE5 hlt5 hps8 hI5
       go_wp2_with (fail)
       go_roundg g'
       case measure=>omega
       case rel=>
        have h1:=HG.out.1
        have h2:=h1.2 (by simp)
        exact ⟨ra,un+1,rc,I5+1,E5,rfl,Lib.hid ⟨⟨by omega,fun _=>by have:=H9.out.2.2.2;omega⟩,H9.out.2.2.1⟩,Lib.hid ⟨H9.out.2.2.1,H8.out.2.1,H8.out.2.2⟩⟩
      |false=>
       have HX:=Lib.hid (And.intro H8.out.1.false (And.intro H8.out.2.1 (And.intro H8.out.2.2 (And.intro (fun h:E5=0=>by have h2:=(HG.out.1.2 (by simp)).2;have h3:=(H7.out.2.2.1 h).2;omega:E5=0→I≤I5) (show un+1≤4001 by have h1:=HG.out.1.1;have h2:=HI.out.1.hn;omega)))))
       have HW:=Lib.hid (want_ q a n c I5 E5 (D+1) ⟨#[41]⟩ _ HX.out.1)
       go_wp2_with (go_at_call 53;fail)
       refine HW.out.mono ?_
       rintro e w14 ⟨rfl,hwt,T14⟩
       obtain ⟨I14,E14,hI14,hE14,hps14⟩:=hwt
       have hng14:=HX.out.2.1.touch T14 fun g _ h e=>by
        have h1:q<w.heap.size:=HP.out.2.1
        rcases h with h|h
        ·have:=h.1;omega
        ·omega
       obtain ⟨hps15,T15⟩:=hps14.setD (J:=D) (by have:=hps14.hD;omega)
       obtain ⟨_,_,_,d4⟩:=hps14.cells
       have f4:=hps14.frozen 4
       have d4:w14.cell? ⟨q,4,none⟩=some (.int .i64 ((D:Int)+1)):=by rw [d4];rfl
       have D0:(0:Int)≤D:=by omega
       have D24:(D:Int)≤24:=by have:=hps14.hD;omega
       have dd:((D:Int)+1)-1=D:=by omega
       have hng15:=hng14.touch T15 fun g _ h e=>by
        have h1:q<w.heap.size:=HP.out.2.1
        rcases h with h|h
        ·have:=h.1;omega
        ·omega
       have hmono:E14=0→I≤I14:=fun h=>by
        have h1:E5=0:=Classical.byContradiction fun h2=>hE14 h2 h
        have:=HX.out.2.2.2.1 h1
        omega
       have H15:=Lib.hid (And.intro hps15 (And.intro hng15 (And.intro ((HX.out.2.2.1.trans T14 fun _ _ e=>e).trans T15 fun _ _ e=>e) hmono)))
       clear hps14 hps15 T15 hng14 hng15 hI14 hE14 T14 hmono
       go_wp2_with (fail)
       go_returns
       exact ⟨_,_,_,rfl,⟨H15.out.2.1,HX.out.2.2.2.2⟩,⟨I14,E14,(fun h=>⟨rfl,H15.out.2.2.2 h⟩),H15.out.1⟩,H15.out.2.2.1⟩
     ·have e0:((E3:Int)==0)=false:=beq_false_of_ne (by omega)
      have HX:=Lib.hid (And.intro HI.out.1 (And.intro HI.out.2.1 (And.intro HI.out.2.2 (And.intro (fun h:E3=0=>absurd h hE3:E3=0→I≤I3) (show un≤4001 by have h1:=HG.out.1.1;have h2:=HI.out.1.hn;omega)))))
      clear hE3
      have HW:=Lib.hid (want_ q a n c I3 E3 (D+1) ⟨#[41]⟩ _ HX.out.1)
      go_wp2_with (go_at_call 53;fail)
      refine HW.out.mono ?_
      rintro e w14 ⟨rfl,hwt,T14⟩
      obtain ⟨I14,E14,hI14,hE14,hps14⟩:=hwt
      have hng14:=HX.out.2.1.touch T14 fun g _ h e=>by
       have h1:q<w.heap.size:=HP.out.2.1
       rcases h with h|h
       ·have:=h.1;omega
       ·omega
      obtain ⟨hps15,T15⟩:=hps14.setD (J:=D) (by have:=hps14.hD;omega)
      obtain ⟨_,_,_,d4⟩:=hps14.cells
      have f4:=hps14.frozen 4
      have d4:w14.cell? ⟨q,4,none⟩=some (.int .i64 ((D:Int)+1)):=by rw [d4];rfl
      have D0:(0:Int)≤D:=by omega
      have D24:(D:Int)≤24:=by have:=hps14.hD;omega
      have dd:((D:Int)+1)-1=D:=by omega
      have hng15:=hng14.touch T15 fun g _ h e=>by
       have h1:q<w.heap.size:=HP.out.2.1
       rcases h with h|h
       ·have:=h.1;omega
       ·omega
      have hmono:E14=0→I≤I14:=fun h=>by
       have h1:E3=0:=Classical.byContradiction fun h2=>hE14 h2 h
       have:=HX.out.2.2.2.1 h1
       omega
      have H15:=Lib.hid (And.intro hps15 (And.intro hng15 (And.intro ((HX.out.2.2.1.trans T14 fun _ _ e=>e).trans T15 fun _ _ e=>e) hmono)))
      clear hps14 hps15 T15 hng14 hng15 hI14 hE14 T14 hmono
      go_wp2_with (fail)
      go_returns
      exact ⟨_,_,_,rfl,⟨H15.out.2.1,HX.out.2.2.2.2⟩,⟨I14,E14,(fun h=>⟨rfl,H15.out.2.2.2 h⟩),H15.out.1⟩,H15.out.2.2.1⟩
 ·have k0:((E:Int) !=0)=true:=by
   have:((E:Int)==0)=false:=beq_false_of_ne (by omega)
   show (!((E:Int)==0))=true
   rw [this]
   rfl
  have k9:((E:Int)==0)=false:=beq_false_of_ne (by omega)
  have HF:=Lib.hid (fail_ q a n c I E D 10 (by decide) 10 rfl w h)
  have HE:=Lib.hid hE
  clear h hm HS0 hqq d0 d1 d4 hE
  go_enter Try.func54,Try.ntmps54
  go_wp2_with (go_at_call 31;fail)
  refine HF.out.mono ?_
  rintro e w3 ⟨rfl,h3,T3⟩
  rw [if_neg HE.out] at h3
  have H3:=Lib.hid (And.intro h3 T3)
  clear h3 T3
  go_wp2_with (fail)
  go_returns
  exact ⟨_,_,_,rfl,⟨NG.nil _ _ _,Nat.zero_le _⟩,⟨I,E,(fun h=>absurd h HE.out),H3.out.1⟩,H3.out.2⟩
end Go.Proofs.Ytmonfaepfbpdpaa
