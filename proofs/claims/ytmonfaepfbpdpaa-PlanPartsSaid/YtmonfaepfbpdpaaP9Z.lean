/- A part of the proof that the statement holds for every input that it names. No other condition. -/
import Derived.Test.YtmonfaepfbpdpaaP8Z
set_option linter.unusedVariables false
set_option linter.unusedSimpArgs false
namespace Go.Proofs.Ytmonfaepfbpdpaa
open Go.RowKit
open Ux (i64B ND NRows nodV Nod)
def CompC (q:Nat) (a:Option Addr) (n c m:Nat):Prop:= ∀(w:World) (lo I E D:Nat) (k o:Int) (s t:ByteArray) (x:Int) (ua:Option Addr) (un uc:Nat),PS w q a n c I E D→q<lo→lo≤w.heap.size→NP w (fun g=>lo≤g) (.agg #[.int .i64 k,.int .i64 o,.string s,.string t,.int .i64 x,.slice ua un uc])→(E≠0∨n-I≤m)→
 Calls Try.prog 38 #[.pointer (some ⟨q,0,none⟩),.agg #[.int .i64 k,.int .i64 o,.string s,.string t,.int .i64 x,.slice ua un uc]] w fun e w'=> ∃k o s t x ua un uc,e= .returned (.agg #[.int .i64 k,.int .i64 o,.string s,.string t,.int .i64 x,.slice ua un uc])∧NP w' (fun g=>lo≤g) (.agg #[.int .i64 k,.int .i64 o,.string s,.string t,.int .i64 x,.slice ua un uc])∧ExpS w' q a n c I E D∧Ux.Touch (fun b=>b=q) w w'
theorem le_max {k:Nat} (h:k≤10000):k≤maxLen:=Nat.le_trans h (by decide)
theorem NG.fresh {w:World} {lo g k:Nat} {A:Nat→Prop} (cur:Array Value) (r:w.heap[g]? =some (.cells cur 24 (0,0))) (hl:cur.size=k*6) (hlo:lo≤g) (hk:k≤10000) (hn:NL w A cur.toList k):NG w lo A (.slice (some ⟨g,0,none⟩) k k) k:=
 ⟨cur.toList,⟨⟨(by rw [Array.length_toList];exact hl),.inr ⟨g,k,cur,rfl,Nat.zero_le _,r,Nat.le_refl _,le_max hk,hl,List.take_of_length_le (by rw [Array.length_toList,hl];exact Nat.le_refl _)⟩⟩,fun b hb=>by cases hb;exact hlo⟩,hn⟩
theorem NG.touch2 {R A:Nat→Prop} {w w':World} {lo:Nat} {v:Value} {k:Nat} (h:NG w lo A v k) (T:Ux.Touch R w w') (hR: ∀g,g<w.heap.size→A g→¬R g) (ho: ∀g,g<w.heap.size→v.ownBlock=some g→¬R g):NG w' lo A v k:=by
 obtain ⟨xs,h1,h2⟩:=h
 exact ⟨xs,⟨Ux.own_touch h1.1 T fun b hb=>ho b (Ux.own_lt h1.1 b hb) hb,h1.2⟩,h2.touch T hR⟩
theorem NG.app2 {A:Nat→Prop} {w:World} {lo:Nat} {v:Value} {k:Nat} (h:NG w lo A v k) (u:Value) (m:Nat) (ys:List Value) (hs:Src Try.prog 6 22 u m ys w) (hy:NL w A ys m) (hA: ∀g,g<w.heap.size→A g→v.ownBlock≠some g) (hlo:lo≤w.heap.size) (hk:k≤10000) (hm:m≤10000):
 ∃r w',(∀ty,(Builtin.append_ #[22,22] ty #[v,u]).run Try.prog w= .ok r w')∧NG w' lo (fun g=>A g∧r.ownBlock≠some g) r (k+m)∧Ux.Touch (fun b=>lo≤b∧v.ownBlock=some b) w w'∧∀g,r.ownBlock=some g→v.ownBlock=some g∨w.heap.size≤g:=by
 obtain ⟨xs,h1,h2⟩:=h
 obtain ⟨r,w',e1,e2,e3,e4⟩:=h1.app' (P:=Try.prog) 22 80 _ Try.underlying22 infoN rfl (by omega) u m ys hs hlo (by simp only [maxLen];omega) (by omega)
 refine ⟨r,w',e1,⟨xs++ys,e2,((h2.append h1.len hy).mono (A':=fun g=>A g∧r.ownBlock≠some g) fun g h3 h4=>⟨h4,fun h6=> ?_⟩).touch e3 fun g h3 h4 h5=>hA g h3 h4.1 h5.2⟩,e3,fun g hg=> ?_⟩
 ·rcases e4 with e|⟨g',e,hg⟩
  ·rw [e] at h6
   exact hA g h3 h4 h6
  ·rw [e] at h6
   cases h6
   omega
 ·rcases e4 with e|⟨g',e,hg'⟩
  ·exact .inl (by rw [←e];exact hg)
  ·rw [e] at hg
   cases hg
   exact .inr hg'
theorem src_grow {w:World} {lo:Nat} {ua:Option Addr} {un uc:Nat} {xs:List Value} {A:Nat→Prop} (hk:Ux.KGrow w lo 24 6 (.slice ua un uc) un xs) (hn:NL w A xs un):Src Try.prog 6 22 (.slice ua un uc) un xs w:=Ux.src_at Try.underlying22 6 un uc ua xs hk.len (hn.one_cells hk.len) (fun j u hj=>by
 obtain ⟨a',c',e,hc⟩:=hk.is
 cases e
 obtain ⟨g,e,_,c0⟩:=hc j u hj
 exact ⟨g,0,e,by rw [Nat.zero_add];exact c0⟩) (by decide)
set_option maxHeartbeats 8000000 in
set_option maxRecDepth 100000 in
theorem compare_ (q:Nat) (a:Option Addr) (n c m:Nat) (HS0: ∀m',m'<m→ReadC 30 q a n c m' #[.int .i64 5]) (HL0: ∀m',m'<m→ReadC 30 q a n c m' #[.int .i64 1]):CompC q a n c m:=by
 intro w lo I E D k o s t x ua un uc h hlo hlw hnp hm
 obtain ⟨b3,hb3⟩: ∃b,w.heap.size=b:=⟨_,rfl⟩
 obtain ⟨W0,hW0⟩: ∃W,w.alloc (.cells #[.int .i64 k,.int .i64 o,.string s,.string t,.int .i64 x,.slice ua un uc] 24)=W:=⟨_,rfl⟩
 have t0:Ux.Touch (fun _=>False) w W0:=by rw [←hW0];exact (Ux.Touch.refl _ _).alloc _
 have s0:W0.heap.size=b3+1:=by rw [←hW0,World.size_alloc,hb3]
 have r30:W0.heap[b3]? =some (.cells #[.int .i64 k,.int .i64 o,.string s,.string t,.int .i64 x,.slice ua un uc] 24 (0,0)):=by rw [←hW0,←hb3];exact heap_alloc_new w _
 obtain ⟨b4,hb4⟩: ∃b,W0.heap.size=b:=⟨_,rfl⟩
 obtain ⟨W1,hW1⟩: ∃W,W0.alloc (.cells #[.int .i64 0,.int .i64 0,.string ⟨#[]⟩,.string ⟨#[]⟩,.int .i64 0,.slice none 0 0] 24)=W:=⟨_,rfl⟩
 have t1:Ux.Touch (fun _=>False) W0 W1:=by rw [←hW1];exact (Ux.Touch.refl _ _).alloc _
 have s1:W1.heap.size=b4+1:=by rw [←hW1,World.size_alloc,hb4]
 have r4:W1.heap[b4]? =some (.cells #[.int .i64 0,.int .i64 0,.string ⟨#[]⟩,.string ⟨#[]⟩,.int .i64 0,.slice none 0 0] 24 (0,0)):=by rw [←hW1,←hb4];exact heap_alloc_new W0 _
 have t01:=t0.trans t1 fun _ _ f=>f
 have r3:=t1.heap r30 (fun f=>f)
 have h1:=h.touch0 t01
 have np1:NP W1 (fun g=>lo≤g∧g<b3) (.agg #[.int .i64 k,.int .i64 o,.string s,.string t,.int .i64 x,.slice ua un uc]):=(hnp.mono (A':=fun g=>lo≤g∧g<b3) fun g h1 h2=>⟨h2,by omega⟩).touch0 t01
 have hf:q<lo∧lo≤b3∧b4=b3+1∧q<b3:=by omega
 have HF:=Lib.hid hf
 have HS:=Lib.hid (And.intro s1 hb3)
 have HR:=Lib.hid fun W (T:Ux.Touch (fun b=>b=q) W1 W)=>And.intro (T.heap r3 (by omega)) (And.intro (T.heap r4 (by omega)) (np1.touch T fun g _ h e=>by have h1:=h.1;omega))
 have HT1:=Lib.hid (t01.mono (fun _ _ f=>f.elim):Ux.Touch (fun b=>b=q) w W1)
 have HP:=Lib.hid h1
 obtain ⟨_,_,d2,_⟩:=h1.cells
 have c30:=row6 r3 0
 have c31:=row6 r3 1
 have c32:=row6 r3 2
 have c33:=row6 r3 3
 have c34:=row6 r3 4
 have c35:=row6 r3 5
 simp at c30 c31 c32 c33 c34 c35
 have HC:=Lib.hid fun W (T:Ux.Touch (fun b=>b=q) W1 W)=>have hne: ¬b3=q:=(by omega);And.intro (T.cell c30 hne) (And.intro (T.cell c31 hne) (And.intro (T.cell c32 hne) (And.intro (T.cell c33 hne) (And.intro (T.cell c34 hne) (T.cell c35 hne)))))
 have HM:=Lib.hid (And.intro hm (And.intro HS0 HL0))
 have HRZ:=Lib.hid r4
 clear h hlo hlw hnp hm HS0 HL0 t0 s0 r30 t1 s1 r4 t01 r3 h1 np1 hf
 go_enter Try.func38,Try.ntmps38
 by_cases hE:E=0
 rotate_left
 ·have k0:((E:Int) !=0)=true:=by
   have:((E:Int)==0)=false:=beq_false_of_ne (by omega)
   show (!((E:Int)==0))=true
   rw [this]
   rfl
  have k9:((E:Int)==0)=false:=beq_false_of_ne (by omega)
  have HE:=Lib.hid hE
  clear hE
  go_wp2_with (refine Ux.is_store 24 rfl ?_;refine Ux.store6 rfl 24 _ _ rfl b4 _ _ _ _ _ _ rfl rfl 24 _ _ _ _ _ _ HRZ.out (by kernel_rfl) (Ux.six_one _ _ _ _ _ _ _ _) ?_)
  intro W9 r9 t9
  go_wp2_with (fail)
  have x0:=row6 r9 0
  have x1:=row6 r9 1
  have x2:=row6 r9 2
  have x3:=row6 r9 3
  have x4:=row6 r9 4
  have x5:=row6 r9 5
  simp at x0 x1 x2 x3 x4 x5
  refine bodyPost_ret (by simp [results,Try.results38,go_sem,x0,x1,x2,x3,x4,x5];try rfl) rfl ?_
  have T9:Ux.Touch (fun b=>b=q) w W9:=(HT1.out.trans (Ux.Touch.refl _ _) fun _ _ e=>e).trans t9 fun b hb e=>by have:=HF.out;have:=HS.out.2;omega
  exact ⟨_,_,_,_,_,_,_,_,rfl,(((HR.out W1 (Ux.Touch.refl _ _)).2.2.mono fun g _ h=>by have h1:=h.1;have h2:=h.2;have:=HF.out;exact ⟨h1,by omega⟩:NP W1 (fun g=>lo≤g∧g≠b4) _).touch t9 fun g _ h e=>h.2 e).mono fun g _ h=>h.1,⟨I,E,(fun h=>absurd h HE.out),HP.out.touch t9 fun b hb e=>by have:=HF.out;omega⟩,T9⟩
 subst hE
 have HM2:=Lib.hid (show n-I≤m by have:=HM.out.1;omega)
 obtain ⟨b5,hb5⟩: ∃b,W1.heap.size=b:=⟨_,rfl⟩
 obtain ⟨W2,hW2⟩: ∃W,W1.alloc (.cells #[.string ⟨#[61]⟩,.string ⟨#[60,62]⟩,.string ⟨#[60]⟩,.string ⟨#[60,61]⟩,.string ⟨#[62]⟩,.string ⟨#[62,61]⟩] 9)=W:=⟨_,rfl⟩
 have t2:Ux.Touch (fun _=>False) W1 W2:=by rw [←hW2];exact (Ux.Touch.refl _ _).alloc _
 have r5:W2.heap[b5]? =some (.cells #[.string ⟨#[61]⟩,.string ⟨#[60,62]⟩,.string ⟨#[60]⟩,.string ⟨#[60,61]⟩,.string ⟨#[62]⟩,.string ⟨#[62,61]⟩] 9 (0,0)):=by rw [←hW2,←hb5];exact heap_alloc_new W1 _
 have hcl: ∀i,i<6→∃s,W2.cell? ⟨b5,i,none⟩=some (.string s):=fun i hi=>by
  rw [cell_of_row W2 b5 i _ _ (0,0) r5]
  have:i=0∨i=1∨i=2∨i=3∨i=4∨i=5:=by omega
  rcases this with rfl|rfl|rfl|rfl|rfl|rfl<;>exact ⟨_,rfl⟩
 have H2:=Lib.hid (And.intro (t2.mono (fun _ _ f=>f.elim):Ux.Touch (fun b=>b=q) W1 W2) (And.intro (HP.out.touch0 t2) hcl))
 clear t2 r5 hcl c30 c31 c32 c33 c34 c35
 go_wp2_with (fail)
 clear hW2 hb5 d2 hW0 hW1 hb3 hb4
 go_loopg [6] 6 (fun gk s6 wr=> ∃i:Nat,s6= .int .i64 i∧i+gk=6∧Hid (PS wr q a n c I 0 D∧Ux.Touch (fun _=>False) W2 wr))
 case atStart=>exact ⟨0,rfl,rfl,Lib.hid ⟨H2.out.2.1,Ux.Touch.refl _ _⟩⟩
 case round=>
  obtain ⟨i,rfl,hig,HI⟩:=hrel
  have i0:(0:Int)≤i:=by omega
  by_cases hlt:i<6
  ·obtain ⟨g',rfl⟩: ∃g',gk=g'+1:=⟨gk-1,by omega⟩
   have i1:(i:Int)<6:=by omega
   obtain ⟨sop,hs⟩:=H2.out.2.2 i hlt
   have hs:=HI.out.2.cell hs (fun f=>f)
   have HIS:=Lib.hid (is_ q a n c I 0 D sop wr HI.out.1)
   clear hlt
   go_wp2_with (go_at_call 36;fail)
   refine HIS.out.mono ?_
   rintro e w5 ⟨bq,rfl,hbq,T5⟩
   have H5:=Lib.hid (And.intro hbq (And.intro (HI.out.1.touch0 T5) (And.intro ((H2.out.1.trans (HI.out.2.trans T5 fun _ _ f=>f) fun _ _ f=>f.elim)) (HI.out.2.trans T5 fun _ _ f=>f))))
   clear hbq T5 hs
   cases bq with
   |false=>
    go_wp2_with (fail)
    go_roundg g'
    case measure=>omega
    case rel=>exact ⟨i+1,by congr 1,by omega,Lib.hid ⟨H5.out.2.1,H5.out.2.2.2⟩⟩
   |true=>
    have hlt:I<n:=H5.out.1 (by simp)
    obtain ⟨hps6,T6⟩:=H5.out.2.1.setI (J:=I+1) hlt
    obtain ⟨_,d1,_,_⟩:=H5.out.2.1.cells
    have f1:=H5.out.2.1.frozen 1
    have j0:(0:Int)≤I:=by omega
    have j4:(I:Int)≤4000:=by have h1:=H5.out.2.1.hn;omega
    obtain ⟨W6,hW6⟩: ∃W,w5.setCell ⟨q,1,none⟩ (.int .i64 ((I:Int)+1))=W:=⟨_,rfl⟩
    have hps6:PS W6 q a n c (I+1) 0 D:=by rw [←hW6];exact hps6
    have T6:Ux.Touch (fun b=>b=q) w5 W6:=by rw [←hW6];exact T6
    have H6:=Lib.hid (And.intro hps6 (And.intro (H5.out.2.2.1.trans T6 fun _ _ e=>e) hlt))
    clear hps6 T6 hlt
    go_upto_region 9 with (fail)
    clear d1 f1 j0 j4 hW6
    obtain ⟨wk,hwk⟩: ∃W,W6.drew=W:=⟨_,rfl⟩
    have Tk:=Lib.hid (show Ux.Touch (fun b=>b=q) W1 wk by rw [←hwk];exact H6.out.2.1.drew)
    have HPK:=Lib.hid (show PS wk q a n c (I+1) 0 D by rw [←hwk];exact H6.out.1.touch0 (Ux.Touch.refl _ _).drew)
    have HS5:=Lib.hid fun W (h:PS W q a n c (I+1) 0 D)=>HM.out.2.1 (n-(I+1)) (by have:=HM2.out;have:=H6.out.2.2;omega) W (I+1) 0 D h (.inr (Nat.le_refl _))
    obtain ⟨c30,c31,c32,c33,c34,c35⟩:=HC.out W6 H6.out.2.1
    refine Ux.wpr (fun _ w'=>w'.cell? ⟨b3,0,none⟩=some (.int .i64 k)∧w'.cell? ⟨b3,1,none⟩=some (.int .i64 o)∧w'.cell? ⟨b3,2,none⟩=some (.string s)∧w'.cell? ⟨b3,3,none⟩=some (.string t)∧w'.cell? ⟨b3,4,none⟩=some (.int .i64 x)∧w'.cell? ⟨b3,5,none⟩=some (.slice ua un uc)) (.q [0,1,3] (.h false [2] (.e 4 true false (.e 5 false false (.q [6] (.line [7])))))) ?_;repeat ((with_reducible refine Ux.qg ?_);refine Ux.qu ?_)
    go_wp2_with (go_at_call 30;fail)
    refine (HS5.out wk HPK.out).mono ?_
    rintro e wn ⟨k1,o1,s1,t1,x1,ua1,un1,uc1,rfl,hnp1,⟨I7,E7,hI7,hps7⟩,T7⟩
    have H7:=Lib.hid (And.intro (hnp1.mono (A':=fun g=>b4<g) fun g _ h=>by have h:wk.heap.size≤g:=h;have h2:=Tk.out.size;have:=HS.out.1;omega) (And.intro hI7 hps7))
    clear hnp1 hI7 hps7
    go_wp2_with (fail)
    have Tk:=Lib.hid (Tk.out.trans T7 fun _ _ e=>e)
    clear T7
    obtain ⟨wk,rfl⟩: ∃W,W=wn:=⟨_,rfl⟩
    refine ⟨HC.out _ Tk.out,?_⟩
    obtain ⟨g9,hg9⟩: ∃X,wk.heap.size=X:=⟨_,rfl⟩
    obtain ⟨wn,hwn⟩: ∃W,wk.alloc (.cells (#[.int .i64 k,.int .i64 o,.string s,.string t,.int .i64 x,.slice ua un uc,.int .i64 k1,.int .i64 o1,.string s1,.string t1,.int .i64 x1,.slice ua1 un1 uc1]) 24)=W:=⟨_,rfl⟩
    have HT6:=Lib.hid (show Ux.Touch (fun _=>False) wk wn by rw [←hwn];exact (Ux.Touch.refl _ _).alloc _)
    have HG:=Lib.hid (And.intro (show wn.heap[g9]? =some (.cells (#[.int .i64 k,.int .i64 o,.string s,.string t,.int .i64 x,.slice ua un uc,.int .i64 k1,.int .i64 o1,.string s1,.string t1,.int .i64 x1,.slice ua1 un1 uc1]) 24 (0,0)) by rw [←hwn,←hg9];exact heap_alloc_new wk _) (show b4<g9 by have h2:=Tk.out.size;have:=HS.out.1;omega))
    go_wp2_with (fail)
    clear hwn hg9
    have H7:=Lib.hid (And.intro (H7.out.1.touch0 HT6.out) (And.intro H7.out.2.1 (H7.out.2.2.touch0 HT6.out)))
    have Tk:=Lib.hid (Tk.out.trans HT6.out fun _ _ f=>f.elim)
    clear HT6
    obtain ⟨wk,rfl⟩: ∃W,W=wn:=⟨_,rfl⟩
    repeat ((with_reducible refine Ux.qg ?_);refine Ux.qu ?_)
    have hf:=HF.out
    have hg:=HG.out.2
    have np9:NP wk (fun g=>lo≤g∧g≠b4) (.agg #[.int .i64 6,.int .i64 (1+(i:Int)),.string ⟨#[]⟩,.string ⟨#[]⟩,.int .i64 0,.slice (some ⟨g9,0,none⟩) 2 2]):=NP.node 6 (1+(i:Int)) 0 ⟨#[]⟩ ⟨#[]⟩ (by unfold i64B;omega) (by unfold i64B;omega) i64_0 (by decide) (by decide) _ 2 2 (Nat.le_refl _) (by decide) fun j hj=>by
     have:j=0∨j=1:=by omega
     rcases this with rfl|rfl
     ·exact ⟨_,six_row HG.out.1 (by omega) 0 _ _ _ _ _ _ rfl rfl rfl rfl rfl rfl,(HR.out wk (Tk.out)).2.2.mono fun g _ h=>by have h1:=h.1;have h2:=h.2;have:=HF.out;exact ⟨h1,by omega⟩⟩
     ·exact ⟨_,six_row HG.out.1 (by omega) 1 _ _ _ _ _ _ rfl rfl rfl rfl rfl rfl,H7.out.1.mono fun g _ h=>by have h:b4<g:=h;omega⟩
    have HN9:=Lib.hid np9
    clear np9 hf hg
    go_wp2_with (refine Ux.is_store 24 rfl ?_;refine Ux.store6 rfl 24 _ _ rfl b4 _ _ _ _ _ _ rfl rfl 24 _ _ _ _ _ _ (HR.out wk (Tk.out)).2.1 (by kernel_rfl) (Ux.six_one _ _ _ _ _ _ _ _) ?_)
    intro W9 r9 t9
    go_wp2_with (fail)
    have x0:=row6 r9 0
    have x1:=row6 r9 1
    have x2:=row6 r9 2
    have x3:=row6 r9 3
    have x4:=row6 r9 4
    have x5:=row6 r9 5
    simp at x0 x1 x2 x3 x4 x5
    refine bodyPost_ret (by simp [results,Try.results38,go_sem,x0,x1,x2,x3,x4,x5];try rfl) rfl ?_
    have T9:Ux.Touch (fun b=>b=q) w W9:=(HT1.out.trans (Tk.out) fun _ _ e=>e).trans t9 fun b hb e=>by have:=HF.out;have:=HS.out.2;omega
    exact ⟨_,_,_,_,_,_,_,_,rfl,((HN9.out:NP wk (fun g=>lo≤g∧g≠b4) _).touch t9 fun g _ h e=>h.2 e).mono fun g _ h=>h.1,⟨I7,E7,(fun h=>⟨rfl,by have:=(H7.out.2.1 h).2;omega⟩),H7.out.2.2.touch t9 fun b hb e=>by have:=HF.out;omega⟩,T9⟩
  ·have i1: ¬(i:Int)<6:=by omega
   have HI2:=Lib.hid (And.intro HI.out.1 (H2.out.1.trans HI.out.2 fun _ _ f=>f.elim))
   clear hlt
   have HTI:=Lib.hid (take_ q a n c I 0 D ⟨#[73,83]⟩ wr HI2.out.1)
   go_wp2_with (go_at_call 40;fail)
   refine HTI.out.mono ?_
   rintro e w5 ⟨b5b,rfl,ht5,T5⟩
   have H5:=Lib.hid (And.intro ht5 (HI2.out.2.trans T5 fun _ _ e=>e))
   clear ht5 T5
   cases b5b with
   |true=>
    obtain ⟨_,hlt,hps5⟩:=H5.out.1.true
    have HL5:=Lib.hid (And.intro hlt hps5)
    clear hlt hps5
    obtain ⟨c30,c31,c32,c33,c34,c35⟩:=HC.out w5 (H5.out.2)
    obtain ⟨g9,hg9⟩: ∃X,w5.heap.size=X:=⟨_,rfl⟩
    obtain ⟨X9,hX9⟩: ∃W,w5.alloc (.cells #[.int .i64 k,.int .i64 o,.string s,.string t,.int .i64 x,.slice ua un uc] 24)=W:=⟨_,rfl⟩
    have u9g:Ux.Touch (fun _=>False) w5 X9:=by rw [←hX9];exact (Ux.Touch.refl _ _).alloc _
    have rg9:X9.heap[g9]? =some (.cells #[.int .i64 k,.int .i64 o,.string s,.string t,.int .i64 x,.slice ua un uc] 24 (0,0)):=by rw [←hX9,←hg9];exact heap_alloc_new w5 _
    obtain ⟨b7,hb7⟩: ∃b,X9.heap.size=b:=⟨_,rfl⟩
    obtain ⟨Z7,hZ7⟩: ∃W,X9.alloc (.cells #[.int .i64 0,.int .i64 0,.string ⟨#[]⟩,.string ⟨#[]⟩,.int .i64 0,.slice none 0 0] 24)=W:=⟨_,rfl⟩
    have rz7:Z7.heap[b7]? =some (.cells #[.int .i64 0,.int .i64 0,.string ⟨#[]⟩,.string ⟨#[]⟩,.int .i64 0,.slice none 0 0] 24 (0,0)):=by rw [←hZ7,←hb7];exact heap_alloc_new X9 _
    have tz7:Ux.Touch (fun _=>False) X9 Z7:=by rw [←hZ7];exact (Ux.Touch.refl _ _).alloc _
    go_wp2_with (refine Ux.is_store 24 rfl ?_;refine Ux.store6 rfl 24 _ _ rfl b7 _ _ _ _ _ _ rfl rfl 24 _ _ _ _ _ _ rz7 (by kernel_rfl) (Ux.six_one _ _ _ _ _ _ _ _) ?_)
    intro W7 r7 t7
    have u7:Ux.Touch (fun _=>False) X9 W7:=tz7.trans (R:=fun _=>False) t7 fun b hb e=>by omega
    clear hX9 hZ7 rz7 tz7 t7
    clear c30 c31 c32 c33 c34 c35
    have s5:=H5.out.2.size
    have hsz:b4<g9∧g9<b7∧q<g9:=by have:=HS.out.1;have:=HF.out;have:=Ux.lt_of_heap rg9;have:=u9g.size;omega
    have T7:Ux.Touch (fun b=>b=q) W1 W7:=(H5.out.2.trans u9g fun _ _ f=>f.elim).trans u7 fun _ _ f=>f.elim
    have HX:=Lib.hid (And.intro r7 (And.intro (u7.heap rg9 (fun f=>f)) (And.intro T7 (And.intro ((HL5.out.2.touch0 u9g).touch0 u7) hsz))))
    have y4:=row6 r7 4
    simp at y4
    have f74:=Ux.frozen_row r7 4
    have HTN:=Lib.hid (take_ q a n c (I+1) 0 D ⟨#[78,79,84]⟩ W7 HX.out.2.2.2.1)
    clear r7 rg9 u9g u7 s5 hsz T7 hg9 hb7
    go_wp2_with (go_at_call 40;fail)
    refine HTN.out.mono ?_
    rintro e w8 ⟨b8b,rfl,ht8,T8⟩
    have r78:=T8.heap HX.out.1 (by have:=HX.out.2.2.2.2;omega)
    have rg8:=T8.heap HX.out.2.1 (by have:=HX.out.2.2.2.2;omega)
    have y48:=T8.cell y4 (by have:=HX.out.2.2.2.2;show¬b7=q;omega)
    have f78:=Ux.frozen_row r78 4
    have H8:=Lib.hid (And.intro ht8 (And.intro r78 (And.intro rg8 (HX.out.2.2.1.trans T8 fun _ _ e=>e))))
    clear ht8 r78 rg8 T8 y4 f74
    go_upto_if 51 with (fail)
    go_cut [] (fun wx=> ∃(nn:Int) (J:Nat),Hid (i64B nn∧wx.heap[b7]? =some (.cells #[.int .i64 7,.int .i64 0,.string ⟨#[]⟩,.string ⟨#[]⟩,.int .i64 nn,.slice (some ⟨g9,0,none⟩) 1 1] 24 (0,0))∧wx.heap[g9]? =some (.cells #[.int .i64 k,.int .i64 o,.string s,.string t,.int .i64 x,.slice ua un uc] 24 (0,0))∧PS wx q a n c J 0 D∧I+1≤J∧Ux.Touch (fun b=>b=q∨b=b7) W1 wx∧wx.heap[b4]? =some (.cells #[.int .i64 0,.int .i64 0,.string ⟨#[]⟩,.string ⟨#[]⟩,.int .i64 0,.slice none 0 0] 24 (0,0))∧NP wx (fun g=>lo≤g∧g<b3) (.agg #[.int .i64 k,.int .i64 o,.string s,.string t,.int .i64 x,.slice ua un uc])))
    case first=>
     have hx:=HX.out.2.2.2.2
     have hf:=HF.out
     cases b8b with
     |true=>
      have hps8:=H8.out.1.true.2.2
      have t9:Ux.Touch (fun b=>b=b7) w8 (w8.setCell ⟨b7,4,none⟩ (.int .i64 1)):=(Ux.Touch.refl (fun b=>b=b7) w8).setCell (p:=⟨b7,4,none⟩) (fun _=>rfl) _
      have hr:=HR.out w8 H8.out.2.2.2
      have HY:=Lib.hid (And.intro (Ux.setCell_row H8.out.2.1 4 (.int .i64 1)) (And.intro (t9.heap H8.out.2.2.1 (by omega)) (And.intro (hps8.touch t9 fun b hb e=>by omega) (And.intro ((H8.out.2.2.2.mono (fun _ _ e=> .inl e):Ux.Touch (fun b=>b=q∨b=b7) W1 w8).trans t9 fun _ _ e=> .inr e) (And.intro (t9.heap hr.2.1 (by omega)) (hr.2.2.touch t9 fun g _ h e=>by have:=h.2;omega))))))
      clear hps8 t9 hr
      go_wp2_with (fail)
      go_meet
      exact ⟨1,I+1+1,Lib.hid ⟨by unfold i64B;omega,HY.out.1,HY.out.2.1,HY.out.2.2.1,by omega,HY.out.2.2.2.1,HY.out.2.2.2.2.1,HY.out.2.2.2.2.2⟩⟩
     |false=>
      have hr:=HR.out w8 H8.out.2.2.2
      have HY:=Lib.hid hr
      clear hr
      go_wp2_with (fail)
      go_meet
      exact ⟨0,I+1,Lib.hid ⟨i64_0,H8.out.2.1,H8.out.2.2.1,H8.out.1.false,by omega,H8.out.2.2.2.mono (fun _ _ e=> .inl e),HY.out.2.1,HY.out.2.2⟩⟩
    clear y48 f78
    obtain ⟨nn,J,hcut⟩:=hcut
    obtain ⟨W9a,rfl⟩: ∃W,W=wc:=⟨_,rfl⟩
    have HWN:=Lib.hid (want_ q a n c J 0 D ⟨#[78,85,76,76]⟩ W9a hcut.out.2.2.2.1)
    go_wp2_with (go_at_call 53;fail)
    refine HWN.out.mono ?_
    rintro e w10 ⟨rfl,hwt,T10⟩
    obtain ⟨I14,E14,hI14,hE14,hps14⟩:=hwt
    have hx:=HX.out.2.2.2.2
    have hf:=HF.out
    have r710:=T10.heap hcut.out.2.1 (by omega)
    have rg10:=T10.heap hcut.out.2.2.1 (by omega)
    have r410:=T10.heap hcut.out.2.2.2.2.2.2.1 (by omega)
    have np10:=hcut.out.2.2.2.2.2.2.2.touch T10 fun g _ h e=>by have:=h.1;omega
    have HN9:=Lib.hid (show NP w10 (fun g=>lo≤g∧g≠b4) (.agg #[.int .i64 7,.int .i64 0,.string ⟨#[]⟩,.string ⟨#[]⟩,.int .i64 nn,.slice (some ⟨g9,0,none⟩) 1 1]) from NP.node 7 0 nn ⟨#[]⟩ ⟨#[]⟩ (by unfold i64B;omega) i64_0 hcut.out.1 (by decide) (by decide) _ 1 1 (Nat.le_refl _) (by decide) fun j hj=>by
     obtain rfl:j=0:=by omega
     exact ⟨_,six_row rg10 (by omega) 0 _ _ _ _ _ _ rfl rfl rfl rfl rfl rfl,np10.mono fun g _ h=>by have h1:=h.1;have h2:=h.2;omega⟩)
    have HT10:=Lib.hid (And.intro (hcut.out.2.2.2.2.2.1.trans T10 fun _ _ e=> .inl e) (And.intro hps14 (And.intro r410 (show I≤I14 by have:=hcut.out.2.2.2.2.1;omega))))
    have HX7:=Lib.hid hx
    have y0:=row6 r710 0
    have y1:=row6 r710 1
    have y2:=row6 r710 2
    have y3:=row6 r710 3
    have y4:=row6 r710 4
    have y5:=row6 r710 5
    simp at y0 y1 y2 y3 y4 y5
    clear r710 rg10 r410 np10 hps14 hI14 hE14 T10 hx hf hcut
    go_wp2_with (refine Ux.is_store 24 rfl ?_;refine Ux.store6 rfl 24 _ _ rfl b4 _ _ _ _ _ _ rfl rfl 24 _ _ _ _ _ _ HT10.out.2.2.1 (by kernel_rfl) (Ux.six_one _ _ _ _ _ _ _ _) ?_)
    intro W9 r9 t9
    go_wp2_with (fail)
    clear y0 y1 y2 y3 y4 y5
    have x0:=row6 r9 0
    have x1:=row6 r9 1
    have x2:=row6 r9 2
    have x3:=row6 r9 3
    have x4:=row6 r9 4
    have x5:=row6 r9 5
    simp at x0 x1 x2 x3 x4 x5
    refine bodyPost_ret (by simp [results,Try.results38,go_sem,x0,x1,x2,x3,x4,x5];try rfl) rfl ?_
    have T9:Ux.Touch (fun b=>b=q) w W9:=(HT1.out.trans (R:=fun b=>b=q) HT10.out.1 fun b hb e=>by have:=HF.out;have:=HX7.out;have:=HS.out.2;omega).trans t9 fun b hb e=>by have:=HF.out;have:=HS.out.2;omega
    exact ⟨_,_,_,_,_,_,_,_,rfl,(HN9.out.touch t9 fun g _ h e=>h.2 e).mono fun g _ h=>h.1,⟨I14,E14,(fun _=>⟨rfl,HT10.out.2.2.2⟩),HT10.out.2.1.touch t9 fun b hb e=>by have:=HF.out;omega⟩,T9⟩
   |false=>
    have hps5:=H5.out.1.false
    have HPS5:=Lib.hid (And.intro hps5 H5.out.2)
    have HIN:=Lib.hid (is_ q a n c I 0 D ⟨#[78,79,84]⟩ w5 hps5)
    clear hps5
    go_wp2_with (go_at_call 36;fail)
    refine HIN.out.mono ?_
    rintro e w6 ⟨b6,rfl,hb6,T6⟩
    have H6:=Lib.hid (And.intro hb6 (And.intro (HPS5.out.1.touch0 T6) (HPS5.out.2.trans T6 fun _ _ f=>f.elim)))
    clear hb6 T6
    go_upto_if 57 with (fail)
    go_cut [8] (fun s8 wx=> ∃(nn:Int) (J:Nat),s8= .int .i64 nn∧Hid (i64B nn∧PS wx q a n c J 0 D∧I≤J∧Ux.Touch (fun b=>b=q) W1 wx))
    case first=>
     cases b6 with
     |true=>
      have hlt:I<n:=H6.out.1 (by simp)
      obtain ⟨hps7,T7⟩:=(H6.out.2.1).setI (J:=I+1) hlt
      obtain ⟨_,d1,_,_⟩:=(H6.out.2.1).cells
      have f1:=(H6.out.2.1).frozen 1
      have j0:(0:Int)≤I:=by omega
      have j4:(I:Int)≤4000:=by have h1:=(H6.out.2.1).hn;omega
      obtain ⟨W7,hW7⟩: ∃W,w6.setCell ⟨q,1,none⟩ (.int .i64 ((I:Int)+1))=W:=⟨_,rfl⟩
      have hps7:PS W7 q a n c (I+1) 0 D:=by rw [←hW7];exact hps7
      have T7:Ux.Touch (fun b=>b=q) w6 W7:=by rw [←hW7];exact T7
      have H7:=Lib.hid (And.intro hps7 (H6.out.2.2.trans T7 fun _ _ e=>e))
      clear hps7 T7 hlt
      go_wp2_with (fail)
      go_meet
      exact ⟨1,I+1,rfl,Lib.hid ⟨by unfold i64B;omega,H7.out.1,by omega,H7.out.2⟩⟩
     |false=>
      go_wp2_with (fail)
      go_meet
      exact ⟨0,I,rfl,Lib.hid ⟨i64_0,H6.out.2.1,Nat.le_refl _,H6.out.2.2⟩⟩
    obtain ⟨nn,J,rfl,hcut⟩:=hcut
    obtain ⟨W8,rfl⟩: ∃W,W=wc:=⟨_,rfl⟩
    have HTL:=Lib.hid (take_ q a n c J 0 D ⟨#[76,73,75,69]⟩ W8 hcut.out.2.1)
    go_wp2_with (go_at_call 40;fail)
    refine HTL.out.mono ?_
    rintro e w9 ⟨b9,rfl,ht9,T9⟩
    have H9:=Lib.hid (And.intro ht9 (hcut.out.2.2.2.trans T9 fun _ _ e=>e))
    have HJ:=Lib.hid (And.intro hcut.out.1 hcut.out.2.2.1)
    have HS5:=Lib.hid fun W I' E' (h:PS W q a n c I' E' D) (hi:E'=0→J+1≤I') (hjn:J<n)=>HM.out.2.1 (n-(J+1)) (by have:=HM2.out;have:=HJ.out.2;omega) W I' E' D h (by by_cases hE:E'=0;exact .inr (by have:=hi hE;omega);exact .inl hE)
    clear ht9 T9 hcut
    cases b9 with
    |true=>
     obtain ⟨_,hlt,hps9⟩:=H9.out.1.true
     have HLT:=Lib.hid hlt
     have H10:=Lib.hid (And.intro hps9 H9.out.2)
     clear hlt hps9
     go_upto_region 21 with (fail)
     go_cut [9] (fun s9 wx=> ∃(b9 g9 I7 E7:Nat),s9= .pointer (some ⟨b9,0,none⟩)∧Hid (wx.heap[b9]? =some (.cells #[.int .i64 8,.int .i64 0,.string ⟨#[]⟩,.string ⟨#[]⟩,.int .i64 nn,.slice (some ⟨g9,0,none⟩) 2 2] 24 (0,0))∧(b4<g9∧g9≠b9∧b4<b9)∧(∃cur:Array Value,wx.heap[g9]? =some (.cells cur 24 (0,0))∧cur.size=2*6∧NL wx (fun g=>lo≤g∧g≠b4∧g≠b9∧g≠g9) cur.toList 2)∧PS wx q a n c I7 E7 D∧(E7=0→J+1≤I7)∧Ux.Touch (fun b=>b=q) W1 wx))
     case first=>
      obtain ⟨wk,hwk⟩: ∃W,w9.drew=W:=⟨_,rfl⟩
      have Tk:=Lib.hid (show Ux.Touch (fun b=>b=q) W1 wk by rw [←hwk];exact H10.out.2.drew)
      have HPK:=Lib.hid (show PS wk q a n c (J+1) 0 D by rw [←hwk];exact H10.out.1.touch0 (Ux.Touch.refl _ _).drew)
      obtain ⟨c30,c31,c32,c33,c34,c35⟩:=HC.out w9 H10.out.2
      refine Ux.wpr (fun _ w'=>w'.cell? ⟨b3,0,none⟩=some (.int .i64 k)∧w'.cell? ⟨b3,1,none⟩=some (.int .i64 o)∧w'.cell? ⟨b3,2,none⟩=some (.string s)∧w'.cell? ⟨b3,3,none⟩=some (.string t)∧w'.cell? ⟨b3,4,none⟩=some (.int .i64 x)∧w'.cell? ⟨b3,5,none⟩=some (.slice ua un uc)) (.q [0,2] (.h false [1] (.br 3 (.br 4 (.q [5] (.e 6 true true (.line [7]))) 6 (.e 4 true true (.q [5] (.line [7])))) 6 (.e 3 true true (.e 4 true true (.q [5] (.line [7]))))))) ?_;repeat ((with_reducible refine Ux.qg ?_);refine Ux.qu ?_)
      refine ⟨?_,?_⟩
      ·go_wp2_with (go_at_call 30;fail)
       refine (HS5.out wk _ _ HPK.out (fun _=>Nat.le_refl _) HLT.out).mono ?_
       rintro e wn ⟨k1,o1,s1,t1,x1,ua1,un1,uc1,rfl,hnp1,⟨I7,E7,hI7,hps7⟩,T7⟩
       have h2:=Tk.out.size
       have h3:=HS.out.1
       have h4:=HF.out
       first
       |(have h5:=Ux.lt_of_heap HB.out.1
         have h6:=HB.out.2
         have H7:=Lib.hid (And.intro (hnp1.mono (A':=fun g=>lo≤g∧g≠b4∧g≠b9) fun g _ h=>by have h:wk.heap.size≤g:=h;omega) (And.intro hI7 hps7))
         have HB:=Lib.hid (And.intro (T7.heap HB.out.1 (by omega)) HB.out.2)
         clear h5 h6)
       |have H7:=Lib.hid (And.intro (hnp1.mono (A':=fun g=>lo≤g∧g≠b4) fun g _ h=>by have h:wk.heap.size≤g:=h;omega) (And.intro hI7 hps7))
       clear hnp1 hI7 hps7 h2 h3 h4
       go_wp2_with (fail)
       have Tk:=Lib.hid (Tk.out.trans T7 fun _ _ e=>e)
       clear T7
       obtain ⟨wk,rfl⟩: ∃W,W=wn:=⟨_,rfl⟩
       first|refine ⟨⟨HC.out _ Tk.out,HC.out _ Tk.out⟩,?_⟩|refine ⟨HC.out _ Tk.out,?_⟩
       refine ⟨?_,?_⟩
       ·obtain ⟨g9,hg9⟩: ∃X,wk.heap.size=X:=⟨_,rfl⟩
        obtain ⟨wn,hwn⟩: ∃W,wk.alloc (.cells #[.int .i64 k,.int .i64 o,.string s,.string t,.int .i64 x,.slice ua un uc,.int .i64 k1,.int .i64 o1,.string s1,.string t1,.int .i64 x1,.slice ua1 un1 uc1] 24)=W:=⟨_,rfl⟩
        have HT6:=Lib.hid (show Ux.Touch (fun _=>False) wk wn by rw [←hwn];exact (Ux.Touch.refl _ _).alloc _)
        have HG:=Lib.hid (And.intro (show wn.heap[g9]? =some (.cells #[.int .i64 k,.int .i64 o,.string s,.string t,.int .i64 x,.slice ua un uc,.int .i64 k1,.int .i64 o1,.string s1,.string t1,.int .i64 x1,.slice ua1 un1 uc1] 24 (0,0)) by rw [←hwn,←hg9];exact heap_alloc_new wk _) (show b4<g9 by have h2:=Tk.out.size;have:=HS.out.1;omega))
        first
        |(have HB:=Lib.hid (And.intro (HT6.out.heap HB.out.1 (fun f=>f)) HB.out.2)
          have H7:=Lib.hid (And.intro ((H7.out.1.mono (A':=fun g=>lo≤g∧g≠b4∧g≠b9∧g≠g9) fun g h1 h=>⟨h.1,h.2.1,h.2.2,by omega⟩).touch0 HT6.out) (And.intro H7.out.2.1 (H7.out.2.2.touch0 HT6.out))))
        |have H7:=Lib.hid (And.intro ((H7.out.1.mono (A':=fun g=>lo≤g∧g≠b4∧g≠g9) fun g h1 h=>⟨h.1,h.2,by omega⟩).touch0 HT6.out) (And.intro H7.out.2.1 (H7.out.2.2.touch0 HT6.out)))
        go_wp2_with (fail)
        clear hwn hg9
        have Tk:=Lib.hid (Tk.out.trans HT6.out fun _ _ f=>f.elim)
        clear HT6
        obtain ⟨wk,rfl⟩: ∃W,W=wn:=⟨_,rfl⟩
        first|refine ⟨⟨HC.out _ Tk.out,HC.out _ Tk.out⟩,?_⟩|refine ⟨HC.out _ Tk.out,?_⟩
        repeat ((with_reducible refine Ux.qg ?_);refine Ux.qu ?_)
        obtain ⟨b9,hb9⟩: ∃X,wk.heap.size=X:=⟨_,rfl⟩
        obtain ⟨wn,hwn⟩: ∃W,wk.alloc (.cells #[.int .i64 0,.int .i64 0,.string ⟨#[]⟩,.string ⟨#[]⟩,.int .i64 0,.slice none 0 0] 24)=W:=⟨_,rfl⟩
        have HT6:=Lib.hid (show Ux.Touch (fun _=>False) wk wn by rw [←hwn];exact (Ux.Touch.refl _ _).alloc _)
        have HB:=Lib.hid (And.intro (show wn.heap[b9]? =some (.cells #[.int .i64 0,.int .i64 0,.string ⟨#[]⟩,.string ⟨#[]⟩,.int .i64 0,.slice none 0 0] 24 (0,0)) by rw [←hwn,←hb9];exact heap_alloc_new wk _) (show b4<b9 by have h2:=Tk.out.size;have:=HS.out.1;omega))
        first
        |(have HG:=Lib.hid (And.intro (HT6.out.heap HG.out.1 (fun f=>f)) HG.out.2)
          have H7:=Lib.hid (And.intro ((H7.out.1.mono (A':=fun g=>lo≤g∧g≠b4∧g≠b9∧g≠g9) fun g h1 h=>⟨h.1,h.2.1,by omega,h.2.2⟩).touch0 HT6.out) (And.intro H7.out.2.1 (H7.out.2.2.touch0 HT6.out))))
        |have H7:=Lib.hid (And.intro ((H7.out.1.mono (A':=fun g=>lo≤g∧g≠b4∧g≠b9) fun g h1 h=>⟨h.1,h.2,by omega⟩).touch0 HT6.out) (And.intro H7.out.2.1 (H7.out.2.2.touch0 HT6.out)))
        |skip
        go_wp2_with (fail)
        clear hwn hb9
        try have HPK:=Lib.hid (HPK.out.touch0 HT6.out)
        have Tk:=Lib.hid (Tk.out.trans HT6.out fun _ _ f=>f.elim)
        clear HT6
        obtain ⟨wk,rfl⟩: ∃W,W=wn:=⟨_,rfl⟩
        first|refine ⟨⟨HC.out _ Tk.out,HC.out _ Tk.out⟩,?_⟩|refine ⟨HC.out _ Tk.out,?_⟩
        skip
        have hne:g9≠b9:=fun e=>by
         have h1:=HG.out.1
         have h2:=HB.out.1
         rw [e,h2] at h1
         simp at h1
        have HX:=Lib.hid (And.intro HG.out (And.intro hne (And.intro H7.out ((HR.out wk Tk.out).2.2))))
        clear hne
        go_wp2_with (refine Ux.is_store 24 rfl ?_;refine Ux.store6 rfl 24 _ _ rfl b9 _ _ _ _ _ _ rfl rfl 24 _ _ _ _ _ _ HB.out.1 (by kernel_rfl) (Ux.six_one _ _ _ _ _ _ _ _) ?_)
        intro W9 r9 t9
        go_wp2_with (fail)
        go_meet
        have hf:=HF.out
        have hb:=HB.out.2
        have hs:=HS.out.1
        exact ⟨b9,g9,I7,E7,rfl,Lib.hid ⟨r9,⟨HX.out.1.2,HX.out.2.1,hb⟩,⟨_,t9.heap HX.out.1.1 HX.out.2.1,rfl,NL.append (NL.one ((HX.out.2.2.2.mono fun g _ h=>by have h1:=h.1;have h2:=h.2;have:=HX.out.1.2;exact ⟨h1,by omega,by omega,by omega⟩).touch t9 fun g _ h e=>h.2.2.1 e)) rfl (NL.one (HX.out.2.2.1.1.touch t9 fun g _ h e=>h.2.2.1 e))⟩,HX.out.2.2.1.2.2.touch t9 fun b hb e=>by omega,(fun h=>(HX.out.2.2.1.2.1 h).2),Tk.out.trans t9 fun b hb e=>by omega⟩⟩
       ·obtain ⟨b9,hb9⟩: ∃X,wk.heap.size=X:=⟨_,rfl⟩
        obtain ⟨wn,hwn⟩: ∃W,wk.alloc (.cells #[.int .i64 0,.int .i64 0,.string ⟨#[]⟩,.string ⟨#[]⟩,.int .i64 0,.slice none 0 0] 24)=W:=⟨_,rfl⟩
        have HT6:=Lib.hid (show Ux.Touch (fun _=>False) wk wn by rw [←hwn];exact (Ux.Touch.refl _ _).alloc _)
        have HB:=Lib.hid (And.intro (show wn.heap[b9]? =some (.cells #[.int .i64 0,.int .i64 0,.string ⟨#[]⟩,.string ⟨#[]⟩,.int .i64 0,.slice none 0 0] 24 (0,0)) by rw [←hwn,←hb9];exact heap_alloc_new wk _) (show b4<b9 by have h2:=Tk.out.size;have:=HS.out.1;omega))
        first
        |(have HG:=Lib.hid (And.intro (HT6.out.heap HG.out.1 (fun f=>f)) HG.out.2)
          have H7:=Lib.hid (And.intro ((H7.out.1.mono (A':=fun g=>lo≤g∧g≠b4∧g≠b9∧g≠g9) fun g h1 h=>⟨h.1,h.2.1,by omega,h.2.2⟩).touch0 HT6.out) (And.intro H7.out.2.1 (H7.out.2.2.touch0 HT6.out))))
        |have H7:=Lib.hid (And.intro ((H7.out.1.mono (A':=fun g=>lo≤g∧g≠b4∧g≠b9) fun g h1 h=>⟨h.1,h.2,by omega⟩).touch0 HT6.out) (And.intro H7.out.2.1 (H7.out.2.2.touch0 HT6.out)))
        |skip
        go_wp2_with (fail)
        clear hwn hb9
        try have HPK:=Lib.hid (HPK.out.touch0 HT6.out)
        have Tk:=Lib.hid (Tk.out.trans HT6.out fun _ _ f=>f.elim)
        clear HT6
        obtain ⟨wk,rfl⟩: ∃W,W=wn:=⟨_,rfl⟩
        first|refine ⟨⟨HC.out _ Tk.out,HC.out _ Tk.out⟩,?_⟩|refine ⟨HC.out _ Tk.out,?_⟩
        obtain ⟨g9,hg9⟩: ∃X,wk.heap.size=X:=⟨_,rfl⟩
        obtain ⟨wn,hwn⟩: ∃W,wk.alloc (.cells #[.int .i64 k,.int .i64 o,.string s,.string t,.int .i64 x,.slice ua un uc,.int .i64 k1,.int .i64 o1,.string s1,.string t1,.int .i64 x1,.slice ua1 un1 uc1] 24)=W:=⟨_,rfl⟩
        have HT6:=Lib.hid (show Ux.Touch (fun _=>False) wk wn by rw [←hwn];exact (Ux.Touch.refl _ _).alloc _)
        have HG:=Lib.hid (And.intro (show wn.heap[g9]? =some (.cells #[.int .i64 k,.int .i64 o,.string s,.string t,.int .i64 x,.slice ua un uc,.int .i64 k1,.int .i64 o1,.string s1,.string t1,.int .i64 x1,.slice ua1 un1 uc1] 24 (0,0)) by rw [←hwn,←hg9];exact heap_alloc_new wk _) (show b4<g9 by have h2:=Tk.out.size;have:=HS.out.1;omega))
        first
        |(have HB:=Lib.hid (And.intro (HT6.out.heap HB.out.1 (fun f=>f)) HB.out.2)
          have H7:=Lib.hid (And.intro ((H7.out.1.mono (A':=fun g=>lo≤g∧g≠b4∧g≠b9∧g≠g9) fun g h1 h=>⟨h.1,h.2.1,h.2.2,by omega⟩).touch0 HT6.out) (And.intro H7.out.2.1 (H7.out.2.2.touch0 HT6.out))))
        |have H7:=Lib.hid (And.intro ((H7.out.1.mono (A':=fun g=>lo≤g∧g≠b4∧g≠g9) fun g h1 h=>⟨h.1,h.2,by omega⟩).touch0 HT6.out) (And.intro H7.out.2.1 (H7.out.2.2.touch0 HT6.out)))
        go_wp2_with (fail)
        clear hwn hg9
        have Tk:=Lib.hid (Tk.out.trans HT6.out fun _ _ f=>f.elim)
        clear HT6
        obtain ⟨wk,rfl⟩: ∃W,W=wn:=⟨_,rfl⟩
        first|refine ⟨⟨HC.out _ Tk.out,HC.out _ Tk.out⟩,?_⟩|refine ⟨HC.out _ Tk.out,?_⟩
        repeat ((with_reducible refine Ux.qg ?_);refine Ux.qu ?_)
        skip
        have hne:g9≠b9:=fun e=>by
         have h1:=HG.out.1
         have h2:=HB.out.1
         rw [e,h2] at h1
         simp at h1
        have HX:=Lib.hid (And.intro HG.out (And.intro hne (And.intro H7.out ((HR.out wk Tk.out).2.2))))
        clear hne
        go_wp2_with (refine Ux.is_store 24 rfl ?_;refine Ux.store6 rfl 24 _ _ rfl b9 _ _ _ _ _ _ rfl rfl 24 _ _ _ _ _ _ HB.out.1 (by kernel_rfl) (Ux.six_one _ _ _ _ _ _ _ _) ?_)
        intro W9 r9 t9
        go_wp2_with (fail)
        go_meet
        have hf:=HF.out
        have hb:=HB.out.2
        have hs:=HS.out.1
        exact ⟨b9,g9,I7,E7,rfl,Lib.hid ⟨r9,⟨HX.out.1.2,HX.out.2.1,hb⟩,⟨_,t9.heap HX.out.1.1 HX.out.2.1,rfl,NL.append (NL.one ((HX.out.2.2.2.mono fun g _ h=>by have h1:=h.1;have h2:=h.2;have:=HX.out.1.2;exact ⟨h1,by omega,by omega,by omega⟩).touch t9 fun g _ h e=>h.2.2.1 e)) rfl (NL.one (HX.out.2.2.1.1.touch t9 fun g _ h e=>h.2.2.1 e))⟩,HX.out.2.2.1.2.2.touch t9 fun b hb e=>by omega,(fun h=>(HX.out.2.2.1.2.1 h).2),Tk.out.trans t9 fun b hb e=>by omega⟩⟩
      ·obtain ⟨b9,hb9⟩: ∃X,wk.heap.size=X:=⟨_,rfl⟩
       obtain ⟨wn,hwn⟩: ∃W,wk.alloc (.cells #[.int .i64 0,.int .i64 0,.string ⟨#[]⟩,.string ⟨#[]⟩,.int .i64 0,.slice none 0 0] 24)=W:=⟨_,rfl⟩
       have HT6:=Lib.hid (show Ux.Touch (fun _=>False) wk wn by rw [←hwn];exact (Ux.Touch.refl _ _).alloc _)
       have HB:=Lib.hid (And.intro (show wn.heap[b9]? =some (.cells #[.int .i64 0,.int .i64 0,.string ⟨#[]⟩,.string ⟨#[]⟩,.int .i64 0,.slice none 0 0] 24 (0,0)) by rw [←hwn,←hb9];exact heap_alloc_new wk _) (show b4<b9 by have h2:=Tk.out.size;have:=HS.out.1;omega))
       first
       |(have HG:=Lib.hid (And.intro (HT6.out.heap HG.out.1 (fun f=>f)) HG.out.2)
         have H7:=Lib.hid (And.intro ((H7.out.1.mono (A':=fun g=>lo≤g∧g≠b4∧g≠b9∧g≠g9) fun g h1 h=>⟨h.1,h.2.1,by omega,h.2.2⟩).touch0 HT6.out) (And.intro H7.out.2.1 (H7.out.2.2.touch0 HT6.out))))
       |have H7:=Lib.hid (And.intro ((H7.out.1.mono (A':=fun g=>lo≤g∧g≠b4∧g≠b9) fun g h1 h=>⟨h.1,h.2,by omega⟩).touch0 HT6.out) (And.intro H7.out.2.1 (H7.out.2.2.touch0 HT6.out)))
       |skip
       go_wp2_with (fail)
       clear hwn hb9
       try have HPK:=Lib.hid (HPK.out.touch0 HT6.out)
       have Tk:=Lib.hid (Tk.out.trans HT6.out fun _ _ f=>f.elim)
       clear HT6
       obtain ⟨wk,rfl⟩: ∃W,W=wn:=⟨_,rfl⟩
       first|refine ⟨⟨HC.out _ Tk.out,HC.out _ Tk.out⟩,?_⟩|refine ⟨HC.out _ Tk.out,?_⟩
       go_wp2_with (go_at_call 30;fail)
       refine (HS5.out wk _ _ HPK.out (fun _=>Nat.le_refl _) HLT.out).mono ?_
       rintro e wn ⟨k1,o1,s1,t1,x1,ua1,un1,uc1,rfl,hnp1,⟨I7,E7,hI7,hps7⟩,T7⟩
       have h2:=Tk.out.size
       have h3:=HS.out.1
       have h4:=HF.out
       first
       |(have h5:=Ux.lt_of_heap HB.out.1
         have h6:=HB.out.2
         have H7:=Lib.hid (And.intro (hnp1.mono (A':=fun g=>lo≤g∧g≠b4∧g≠b9) fun g _ h=>by have h:wk.heap.size≤g:=h;omega) (And.intro hI7 hps7))
         have HB:=Lib.hid (And.intro (T7.heap HB.out.1 (by omega)) HB.out.2)
         clear h5 h6)
       |have H7:=Lib.hid (And.intro (hnp1.mono (A':=fun g=>lo≤g∧g≠b4) fun g _ h=>by have h:wk.heap.size≤g:=h;omega) (And.intro hI7 hps7))
       clear hnp1 hI7 hps7 h2 h3 h4
       go_wp2_with (fail)
       have Tk:=Lib.hid (Tk.out.trans T7 fun _ _ e=>e)
       clear T7
       obtain ⟨wk,rfl⟩: ∃W,W=wn:=⟨_,rfl⟩
       first|refine ⟨⟨HC.out _ Tk.out,HC.out _ Tk.out⟩,?_⟩|refine ⟨HC.out _ Tk.out,?_⟩
       obtain ⟨g9,hg9⟩: ∃X,wk.heap.size=X:=⟨_,rfl⟩
       obtain ⟨wn,hwn⟩: ∃W,wk.alloc (.cells #[.int .i64 k,.int .i64 o,.string s,.string t,.int .i64 x,.slice ua un uc,.int .i64 k1,.int .i64 o1,.string s1,.string t1,.int .i64 x1,.slice ua1 un1 uc1] 24)=W:=⟨_,rfl⟩
       have HT6:=Lib.hid (show Ux.Touch (fun _=>False) wk wn by rw [←hwn];exact (Ux.Touch.refl _ _).alloc _)
       have HG:=Lib.hid (And.intro (show wn.heap[g9]? =some (.cells #[.int .i64 k,.int .i64 o,.string s,.string t,.int .i64 x,.slice ua un uc,.int .i64 k1,.int .i64 o1,.string s1,.string t1,.int .i64 x1,.slice ua1 un1 uc1] 24 (0,0)) by rw [←hwn,←hg9];exact heap_alloc_new wk _) (show b4<g9 by have h2:=Tk.out.size;have:=HS.out.1;omega))
       first
       |(have HB:=Lib.hid (And.intro (HT6.out.heap HB.out.1 (fun f=>f)) HB.out.2)
         have H7:=Lib.hid (And.intro ((H7.out.1.mono (A':=fun g=>lo≤g∧g≠b4∧g≠b9∧g≠g9) fun g h1 h=>⟨h.1,h.2.1,h.2.2,by omega⟩).touch0 HT6.out) (And.intro H7.out.2.1 (H7.out.2.2.touch0 HT6.out))))
       |have H7:=Lib.hid (And.intro ((H7.out.1.mono (A':=fun g=>lo≤g∧g≠b4∧g≠g9) fun g h1 h=>⟨h.1,h.2,by omega⟩).touch0 HT6.out) (And.intro H7.out.2.1 (H7.out.2.2.touch0 HT6.out)))
       go_wp2_with (fail)
       clear hwn hg9
       have Tk:=Lib.hid (Tk.out.trans HT6.out fun _ _ f=>f.elim)
       clear HT6
       obtain ⟨wk,rfl⟩: ∃W,W=wn:=⟨_,rfl⟩
       first|refine ⟨⟨HC.out _ Tk.out,HC.out _ Tk.out⟩,?_⟩|refine ⟨HC.out _ Tk.out,?_⟩
       repeat ((with_reducible refine Ux.qg ?_);refine Ux.qu ?_)
       skip
       have hne:g9≠b9:=fun e=>by
        have h1:=HG.out.1
        have h2:=HB.out.1
        rw [e,h2] at h1
        simp at h1
       have HX:=Lib.hid (And.intro HG.out (And.intro hne (And.intro H7.out ((HR.out wk Tk.out).2.2))))
       clear hne
       go_wp2_with (refine Ux.is_store 24 rfl ?_;refine Ux.store6 rfl 24 _ _ rfl b9 _ _ _ _ _ _ rfl rfl 24 _ _ _ _ _ _ HB.out.1 (by kernel_rfl) (Ux.six_one _ _ _ _ _ _ _ _) ?_)
       intro W9 r9 t9
       go_wp2_with (fail)
       go_meet
       have hf:=HF.out
       have hb:=HB.out.2
       have hs:=HS.out.1
       exact ⟨b9,g9,I7,E7,rfl,Lib.hid ⟨r9,⟨HX.out.1.2,HX.out.2.1,hb⟩,⟨_,t9.heap HX.out.1.1 HX.out.2.1,rfl,NL.append (NL.one ((HX.out.2.2.2.mono fun g _ h=>by have h1:=h.1;have h2:=h.2;have:=HX.out.1.2;exact ⟨h1,by omega,by omega,by omega⟩).touch t9 fun g _ h e=>h.2.2.1 e)) rfl (NL.one (HX.out.2.2.1.1.touch t9 fun g _ h e=>h.2.2.1 e))⟩,HX.out.2.2.1.2.2.touch t9 fun b hb e=>by omega,(fun h=>(HX.out.2.2.1.2.1 h).2),Tk.out.trans t9 fun b hb e=>by omega⟩⟩
     obtain ⟨b9,g9,I7,E7,rfl,hcut⟩:=hcut
     obtain ⟨W11,rfl⟩: ∃W,W=wc:=⟨_,rfl⟩
     obtain ⟨cur,hgc,hcs,hnl⟩:=hcut.out.2.2.1
     have HCS:=Lib.hid (And.intro hcs hcut.out.2.1)
     have HI7:=Lib.hid hcut.out.2.2.2.2.1
     have HTE:=Lib.hid (take_ q a n c I7 E7 D ⟨#[69,83,67,65,80,69]⟩ W11 hcut.out.2.2.2.1)
     have HG11:=Lib.hid (And.intro hgc hnl)
     clear hcs hgc hnl
     go_wp2_with (go_at_call 40;fail)
     refine HTE.out.mono ?_
     rintro e w12 ⟨b12,rfl,ht12,T12⟩
     have hx:=HCS.out.2
     have hf:=HF.out
     have H12:=Lib.hid (And.intro ht12 (And.intro (T12.heap hcut.out.1 (by omega)) (And.intro (T12.heap HG11.out.1 (by omega)) (And.intro (HG11.out.2.touch T12 fun g _ h e=>by have:=h.1;omega) (hcut.out.2.2.2.2.2.trans T12 fun _ _ e=>e)))))
     have HRX:=Lib.hid fun W (T:Ux.Touch (fun b=>b=q) w12 W)=>And.intro (T.heap H12.out.2.1 (by omega)) (And.intro (T.heap H12.out.2.2.1 (by omega)) (And.intro (H12.out.2.2.2.1.touch T fun g _ h e=>by have:=h.1;omega) (H12.out.2.2.2.2.trans T fun _ _ e=>e)))
     have HC5:=Lib.hid fun W (T:Ux.Touch (fun b=>b=q) w12 W)=>(show W.cell? ⟨b9,5,none⟩=some (.slice (some ⟨g9,0,none⟩) 2 2) by have h:=row6 (HRX.out W T).1 5;simp at h;exact h)
     clear hx hf ht12 T12 hcut HG11
     go_upto_if 75 with (fail)
     go_cut [] (fun wx=> ∃(ra:Option Addr) (rn rc I7 E7:Nat),Hid (wx.heap[b9]? =some (.cells #[.int .i64 8,.int .i64 0,.string ⟨#[]⟩,.string ⟨#[]⟩,.int .i64 nn,.slice ra rn rc] 24 (0,0))∧NP wx (fun g=>lo≤g∧g≠b4) (.agg #[.int .i64 8,.int .i64 0,.string ⟨#[]⟩,.string ⟨#[]⟩,.int .i64 nn,.slice ra rn rc])∧PS wx q a n c I7 E7 D∧(E7=0→I≤I7)∧Ux.Touch (fun b=>b=q) W1 wx))
     case first=>
      cases b12 with
      |false=>
       go_wp2_with (fail)
       go_meet
       have hx:=HCS.out.2
       have hf:=HF.out
       exact ⟨some ⟨g9,0,none⟩,2,2,I7,E7,Lib.hid ⟨H12.out.2.1,NP.grown (lo:=b4+1) ((NG.fresh cur H12.out.2.2.1 HCS.out.1 (by omega) (by decide) H12.out.2.2.2.1:NG w12 (b4+1) (fun g=>lo≤g∧g≠b4∧g≠b9∧g≠g9) (.slice (some ⟨g9,0,none⟩) 2 2) 2).mono (A':=fun g=>lo≤g∧g≠b4) (Nat.le_refl _) fun g _ h=>⟨h.1,h.2.1⟩) (fun g h=>by omega) (by decide) 8 0 nn ⟨#[]⟩ ⟨#[]⟩ (by unfold i64B;omega) i64_0 HJ.out.1 (by decide) (by decide),H12.out.1.false,(fun h=>by have:=HI7.out h;have:=HJ.out.2;omega),H12.out.2.2.2.2⟩⟩
      |true=>
       obtain ⟨hE7,hlt,hps12⟩:=H12.out.1.true
       subst hE7
       have HPS12:=Lib.hid (And.intro hps12 (HI7.out rfl))
       clear hlt hps12
       go_upto_region 23 with (fail)
       obtain ⟨wk,hwk⟩: ∃W,w12.drew=W:=⟨_,rfl⟩
       have Tk:=Lib.hid (show Ux.Touch (fun b=>b=q) w12 wk by rw [←hwk];exact (Ux.Touch.refl _ _).drew)
       have HPK:=Lib.hid (show PS wk q a n c (I7+1) 0 D by rw [←hwk];exact HPS12.out.1.touch0 (Ux.Touch.refl _ _).drew)
       have y5:=HC5.out w12 (Ux.Touch.refl _ _)
       refine Ux.wpr (fun _ w'=>w'.cell? ⟨b9,5,none⟩=some (.slice (some ⟨g9,0,none⟩) 2 2)) (.q [0,2] (.h false [1] (.e 3 true false (.e 4 true false (.e 5 false false (.line [6,7])))))) ?_;repeat ((with_reducible refine Ux.qg ?_);refine Ux.qu ?_)
       go_wp2_with (go_at_call 30;fail)
       refine (HS5.out wk _ _ HPK.out (fun _=>by have:=HPS12.out.2;omega) HLT.out).mono ?_
       rintro e wn ⟨k1,o1,s1,t1,x1,ua1,un1,uc1,rfl,hnp1,⟨I8,E8,hI8,hps8⟩,T8⟩
       have hr:=HRX.out wk Tk.out
       have h5:=Ux.lt_of_heap hr.1
       have h6:=Ux.lt_of_heap hr.2.1
       have h7:=HCS.out.2
       have h8:=HF.out
       have H7:=Lib.hid (And.intro (hnp1.mono (A':=fun g=>lo≤g∧g≠b4∧g≠b9∧g≠g9) fun g _ h=>by have h:wk.heap.size≤g:=h;omega) (And.intro hI8 hps8))
       clear hnp1 hI8 hps8 hr h5 h6 h7 h8
       go_wp2_with (fail)
       have Tk:=Lib.hid (Tk.out.trans T8 fun _ _ e=>e)
       clear T8
       obtain ⟨wk,rfl⟩: ∃W,W=wn:=⟨_,rfl⟩
       refine ⟨HC5.out _ Tk.out,?_⟩
       obtain ⟨g10,hg10⟩: ∃X,wk.heap.size=X:=⟨_,rfl⟩
       obtain ⟨wn,hwn⟩: ∃W,wk.alloc (.cells #[.int .i64 k1,.int .i64 o1,.string s1,.string t1,.int .i64 x1,.slice ua1 un1 uc1] 24)=W:=⟨_,rfl⟩
       have HT6:=Lib.hid (show Ux.Touch (fun _=>False) wk wn by rw [←hwn];exact (Ux.Touch.refl _ _).alloc _)
       have HSRC:=Lib.hid (show Src Try.prog 6 22 (.slice (some ⟨g10,0,none⟩) 1 1) 1 [.int .i64 k1,.int .i64 o1,.string s1,.string t1,.int .i64 x1,.slice ua1 un1 uc1] wn by
        rw [←hwn,←hg10]
        exact Ux.src_new Try.underlying22 wk 6 1 _ rfl (by simp [Value.oneCell']))
       go_wp2_with (fail)
       clear hwn hg10
       have H7:=Lib.hid (And.intro (H7.out.1.touch0 HT6.out) (And.intro H7.out.2.1 (H7.out.2.2.touch0 HT6.out)))
       have Tk:=Lib.hid (Tk.out.trans HT6.out fun _ _ f=>f.elim)
       clear HT6
       obtain ⟨wk,rfl⟩: ∃W,W=wn:=⟨_,rfl⟩
       refine ⟨HC5.out _ Tk.out,?_⟩
       have hx:=HCS.out.2
       have hf:=HF.out
       have hr:=HRX.out wk Tk.out
       have hsz:=Ux.lt_of_heap hr.1
       have hsg:=Ux.lt_of_heap hr.2.1
       have hng1:NG wk (b4+1) (fun g=>lo≤g∧g≠b4∧g≠b9∧g≠g9) (.slice (some ⟨g9,0,none⟩) 2 2) 2:=NG.fresh cur hr.2.1 HCS.out.1 (by omega) (by decide) hr.2.2.1
       obtain ⟨r,wn,hrun,hng7,t7,hown⟩:=hng1.app2 _ 1 _ HSRC.out (NL.one H7.out.1) (fun g _ h e=>by cases e;exact h.2.2.2 rfl) (by omega) (by decide) (by decide)
       obtain ⟨ra,rc,rfl⟩: ∃ra rc,r= .slice ra (2+1) rc:=by obtain ⟨xs,h1,_⟩:=hng7;obtain ⟨a',c',e,_⟩:=h1.is;exact ⟨a',c',e⟩
       have r7n:=t7.heap hr.1 fun e=>by have e:g9=_:=Option.some.inj e.2;omega
       have z5:=row6 r7n 5
       simp at z5
       have f5:=Ux.frozen_row r7n 5
       have H8:=Lib.hid (And.intro hrun (And.intro hng7 (And.intro r7n (And.intro (H7.out.2.2.touch t7 fun b hb e=>by have e:g9=_:=Option.some.inj e.2;omega) (And.intro (hr.2.2.2.trans t7 fun b hb e=>by have e:g9=_:=Option.some.inj e.2;have:=HS.out.1;omega) (fun g (hg:(Value.slice ra (2+1) rc).ownBlock=some g)=>(by rcases hown g hg with h|h;(have h:g9=g:=Option.some.inj h;omega);omega:g≠b9)))))))
       have HN2:=Lib.hid (fun h=>by have h1:=(H7.out.2.1 h).2;have:=HPS12.out.2;omega:E8=0→J+1≤I8)
       clear hx hf hr hsz hsg hng1 hrun hng7 t7 hown r7n
       go_wp2_with (at_builtin;refine Ux.wpList_app (v1:= .slice (some ⟨g9,0,none⟩) 2 2) (x1:= .slice (some ⟨g10,0,none⟩) 1 1) rfl _ _ _ _ rfl rfl rfl (H8.out.1 _) ?_)
       go_wp2_with (fail)
       go_meet
       have t18:Ux.Touch (fun b=>b=b9) wn (wn.setCell ⟨b9,5,none⟩ (.slice ra (2+1) rc)):=(Ux.Touch.refl (fun b=>b=b9) wn).setCell (p:=⟨b9,5,none⟩) (fun _=>rfl) _
       have hx:=HCS.out.2
       have hf:=HF.out
       have ng18:=H8.out.2.1.touch2 t18 (fun g _ h e=>h.1.2.2.1 e) (fun g _ h e=>H8.out.2.2.2.2.2 g h e)
       refine ⟨ra,2+1,rc,I8,E8,Lib.hid ⟨Ux.setCell_row H8.out.2.2.1 5 _,NP.grown (ng18.mono (A':=fun g=>lo≤g∧g≠b4) (Nat.le_refl _) fun g _ h=>⟨h.1.1,h.1.2.1⟩) (fun g h=>by omega) (by decide) 8 0 nn ⟨#[]⟩ ⟨#[]⟩ (by unfold i64B;omega) i64_0 HJ.out.1 (by decide) (by decide),H8.out.2.2.2.1.touch t18 fun b hb e=>by omega,(fun h=>by have:=HN2.out h;have:=HJ.out.2;omega),H8.out.2.2.2.2.1.trans t18 fun b hb e=>by have:=HS.out.1;omega⟩⟩
     obtain ⟨ra,rn,rc,I7,E7,hcut⟩:=hcut
     obtain ⟨W20,rfl⟩: ∃W,W=wc:=⟨_,rfl⟩
     have z0:=row6 hcut.out.1 0
     have z1:=row6 hcut.out.1 1
     have z2:=row6 hcut.out.1 2
     have z3:=row6 hcut.out.1 3
     have z4:=row6 hcut.out.1 4
     have z5:=row6 hcut.out.1 5
     simp at z0 z1 z2 z3 z4 z5
     go_wp2_with (refine Ux.is_store 24 rfl ?_;refine Ux.store6 rfl 24 _ _ rfl b4 _ _ _ _ _ _ rfl rfl 24 _ _ _ _ _ _ (HR.out W20 hcut.out.2.2.2.2).2.1 (by kernel_rfl) (Ux.six_one _ _ _ _ _ _ _ _) ?_)
     intro W9 r9 t9
     go_wp2_with (fail)
     clear z0 z1 z2 z3 z4 z5
     have x0:=row6 r9 0
     have x1:=row6 r9 1
     have x2:=row6 r9 2
     have x3:=row6 r9 3
     have x4:=row6 r9 4
     have x5:=row6 r9 5
     simp at x0 x1 x2 x3 x4 x5
     refine bodyPost_ret (by simp [results,Try.results38,go_sem,x0,x1,x2,x3,x4,x5];try rfl) rfl ?_
     have T9:Ux.Touch (fun b=>b=q) w W9:=(HT1.out.trans hcut.out.2.2.2.2 fun _ _ e=>e).trans t9 fun b hb e=>by have:=HF.out;have:=HS.out.2;omega
     exact ⟨_,_,_,_,_,_,_,_,rfl,(hcut.out.2.1.touch t9 fun g _ h e=>h.2 e).mono fun g _ h=>h.1,⟨I7,E7,(fun h=>⟨rfl,hcut.out.2.2.2.1 h⟩),hcut.out.2.2.1.touch t9 fun b hb e=>by have:=HF.out;omega⟩,T9⟩
    |false=>
     have hps9:=H9.out.1.false
     have H10:=Lib.hid (And.intro hps9 H9.out.2)
     have HTB:=Lib.hid (take_ q a n c J 0 D ⟨#[66,69,84,87,69,69,78]⟩ w9 hps9)
     clear hps9
     go_wp2_with (go_at_call 40;fail)
     refine HTB.out.mono ?_
     rintro e w10 ⟨b10,rfl,ht10,T10⟩
     have H11:=Lib.hid (And.intro ht10 (H10.out.2.trans T10 fun _ _ e=>e))
     clear ht10 T10
     cases b10 with
     |true=>
      obtain ⟨_,hlt,hps11⟩:=H11.out.1.true
      have HLT:=Lib.hid hlt
      have H12:=Lib.hid (And.intro hps11 H11.out.2)
      clear hlt hps11
      go_wp2_with (go_at_call 30;fail)
      refine (HS5.out w10 _ _ H12.out.1 (fun _=>Nat.le_refl _) HLT.out).mono ?_
      rintro e w11 ⟨k1,o1,s1,t1,x1,ua1,un1,uc1,rfl,hnp1,⟨I7,E7,hI7,hps7⟩,T7⟩
      have h2:=H12.out.2.size
      have h3:=HS.out.1
      have h4:=HF.out
      have H13:=Lib.hid (And.intro (hnp1.mono (A':=fun g=>b4<g) fun g _ h=>by have h:w10.heap.size≤g:=h;omega) (And.intro hps7 (And.intro hI7 (And.intro (H12.out.2.trans T7 fun _ _ e=>e) (show b4<w11.heap.size by have:=T7.size;omega)))))
      clear hnp1 hps7 hI7 T7 h2 h3 h4
      obtain ⟨b7,hb7⟩: ∃b,w11.heap.size=b:=⟨_,rfl⟩
      obtain ⟨Z7,hZ7⟩: ∃W,w11.alloc (.cells #[.int .i64 0,.int .i64 0,.string ⟨#[]⟩,.string ⟨#[]⟩,.int .i64 0,.slice none 0 0] 24)=W:=⟨_,rfl⟩
      have rz7:Z7.heap[b7]? =some (.cells #[.int .i64 0,.int .i64 0,.string ⟨#[]⟩,.string ⟨#[]⟩,.int .i64 0,.slice none 0 0] 24 (0,0)):=by rw [←hZ7,←hb7];exact heap_alloc_new w11 _
      have tz7:Ux.Touch (fun _=>False) w11 Z7:=by rw [←hZ7];exact (Ux.Touch.refl _ _).alloc _
      go_wp2_with (refine Ux.is_store 24 rfl ?_;refine Ux.store6 rfl 24 _ _ rfl b7 _ _ _ _ _ _ rfl rfl 24 _ _ _ _ _ _ rz7 (by kernel_rfl) (Ux.six_one _ _ _ _ _ _ _ _) ?_)
      intro W7 r7 t7
      have u7:Ux.Touch (fun _=>False) w11 W7:=tz7.trans (R:=fun _=>False) t7 fun b hb e=>by omega
      clear hZ7 rz7 tz7 t7
      have hb:b4<b7:=by have:=H13.out.2.2.2.2;omega
      have HX:=Lib.hid (And.intro r7 (And.intro (H13.out.1.touch0 u7) (And.intro (H13.out.2.1.touch0 u7) (And.intro H13.out.2.2.1 (And.intro (H13.out.2.2.2.1.trans u7 fun _ _ f=>f.elim) hb)))))
      have HWN:=Lib.hid (want_ q a n c I7 E7 D ⟨#[65,78,68]⟩ W7 HX.out.2.2.1)
      clear r7 u7 hb hb7
      go_wp2_with (go_at_call 53;fail)
      refine HWN.out.mono ?_
      rintro e w12 ⟨rfl,hwt,T10⟩
      obtain ⟨I14,E14,hI14,hE14,hps14⟩:=hwt
      have hf:=HF.out
      have h3:=HS.out.1
      have H14:=Lib.hid (And.intro (T10.heap HX.out.1 (by have:=HX.out.2.2.2.2.2;omega)) (And.intro (HX.out.2.1.touch T10 fun g _ h e=>by have h:b4<g:=h;omega) (And.intro hps14 (And.intro (fun h=>by have h1:E7=0:=Classical.byContradiction fun h2=>hE14 h2 h;have:=(HX.out.2.2.2.1 h1).2;omega:E14=0→J+1≤I14) (HX.out.2.2.2.2.1.trans T10 fun _ _ e=>e)))))
      clear hI14 hE14 hps14 T10 hf h3
      have HC2:=Lib.hid fun W (T:Ux.Touch (fun b=>b=q) w12 W)=>(by
       have h7: ¬b7=q:=by have:=HX.out.2.2.2.2.2;have:=HF.out;omega
       have y0:=row6 H14.out.1 0
       have y1:=row6 H14.out.1 1
       have y2:=row6 H14.out.1 2
       have y3:=row6 H14.out.1 3
       have y4:=row6 H14.out.1 4
       have y5:=row6 H14.out.1 5
       simp at y0 y1 y2 y3 y4 y5
       obtain ⟨a0,a1,a2,a3,a4,a5⟩:=HC.out W (H14.out.2.2.2.2.trans T fun _ _ e=>e)
       exact ⟨a0,a1,a2,a3,a4,a5,T.cell y0 h7,T.cell y1 h7,T.cell y2 h7,T.cell y3 h7,T.cell y4 h7,T.cell y5 h7⟩:(fun _ w'=>w'.cell? ⟨b3,0,none⟩=some (.int .i64 k)∧w'.cell? ⟨b3,1,none⟩=some (.int .i64 o)∧w'.cell? ⟨b3,2,none⟩=some (.string s)∧w'.cell? ⟨b3,3,none⟩=some (.string t)∧w'.cell? ⟨b3,4,none⟩=some (.int .i64 x)∧w'.cell? ⟨b3,5,none⟩=some (.slice ua un uc)∧w'.cell? ⟨b7,0,none⟩=some (.int .i64 k1)∧w'.cell? ⟨b7,1,none⟩=some (.int .i64 o1)∧w'.cell? ⟨b7,2,none⟩=some (.string s1)∧w'.cell? ⟨b7,3,none⟩=some (.string t1)∧w'.cell? ⟨b7,4,none⟩=some (.int .i64 x1)∧w'.cell? ⟨b7,5,none⟩=some (.slice ua1 un1 uc1)) true W)
      go_upto_region 28 with (fail)
      obtain ⟨wk,hwk⟩: ∃W,w12.drew=W:=⟨_,rfl⟩
      have T0:=Lib.hid (show Ux.Touch (fun b=>b=q) w12 wk by rw [←hwk];exact (Ux.Touch.refl _ _).drew)
      have HPK:=Lib.hid (show PS wk q a n c I14 E14 D by rw [←hwk];exact H14.out.2.2.1.touch0 (Ux.Touch.refl _ _).drew)
      have HNB:=Lib.hid fun W (T:Ux.Touch (fun b=>b=q) w12 W)=>And.intro (H14.out.2.1.touch T fun g _ h e=>by have h:b4<g:=h;have:=HF.out;omega) (H14.out.2.2.2.2.trans T fun _ _ e=>e)
      obtain ⟨c30,c31,c32,c33,c34,c35,y0,y1,y2,y3,y4,y5⟩:=HC2.out w12 (Ux.Touch.refl _ _)
      refine Ux.wpr (fun _ w'=>w'.cell? ⟨b3,0,none⟩=some (.int .i64 k)∧w'.cell? ⟨b3,1,none⟩=some (.int .i64 o)∧w'.cell? ⟨b3,2,none⟩=some (.string s)∧w'.cell? ⟨b3,3,none⟩=some (.string t)∧w'.cell? ⟨b3,4,none⟩=some (.int .i64 x)∧w'.cell? ⟨b3,5,none⟩=some (.slice ua un uc)∧w'.cell? ⟨b7,0,none⟩=some (.int .i64 k1)∧w'.cell? ⟨b7,1,none⟩=some (.int .i64 o1)∧w'.cell? ⟨b7,2,none⟩=some (.string s1)∧w'.cell? ⟨b7,3,none⟩=some (.string t1)∧w'.cell? ⟨b7,4,none⟩=some (.int .i64 x1)∧w'.cell? ⟨b7,5,none⟩=some (.slice ua1 un1 uc1)) (.q [0,3] (.h false [1,2] (.e 4 true false (.e 5 false false (.q [6] (.line [7])))))) ?_;repeat ((with_reducible refine Ux.qg ?_);refine Ux.qu ?_)
      go_wp2_with (go_at_call 30;fail)
      refine (HS5.out wk _ _ HPK.out H14.out.2.2.2.1 HLT.out).mono ?_
      rintro e wn ⟨k2,o2,s2,t2,x2,ua2,un2,uc2,rfl,hnp2,⟨I8,E8,hI8,hps8⟩,T8⟩
      have h2:=(HNB.out wk T0.out).2.size
      have h3:=HS.out.1
      have H7:=Lib.hid (And.intro (hnp2.mono (A':=fun g=>b4<g) fun g _ h=>by have h:wk.heap.size≤g:=h;omega) (And.intro (fun h=>by have h1:=hI8 h;have:=H14.out.2.2.2.1 h1.1;omega:E8=0→J+1≤I8) hps8))
      clear hnp2 hI8 hps8 h2 h3
      go_wp2_with (fail)
      have T0:=Lib.hid (T0.out.trans T8 fun _ _ e=>e)
      clear T8
      obtain ⟨wk,rfl⟩: ∃W,W=wn:=⟨_,rfl⟩
      refine ⟨HC2.out _ T0.out,?_⟩
      obtain ⟨g9,hg9⟩: ∃X,wk.heap.size=X:=⟨_,rfl⟩
      obtain ⟨wn,hwn⟩: ∃W,wk.alloc (.cells #[.int .i64 k,.int .i64 o,.string s,.string t,.int .i64 x,.slice ua un uc,.int .i64 k1,.int .i64 o1,.string s1,.string t1,.int .i64 x1,.slice ua1 un1 uc1,.int .i64 k2,.int .i64 o2,.string s2,.string t2,.int .i64 x2,.slice ua2 un2 uc2] 24)=W:=⟨_,rfl⟩
      have HT6:=Lib.hid (show Ux.Touch (fun _=>False) wk wn by rw [←hwn];exact (Ux.Touch.refl _ _).alloc _)
      have HG:=Lib.hid (And.intro (show wn.heap[g9]? =some (.cells #[.int .i64 k,.int .i64 o,.string s,.string t,.int .i64 x,.slice ua un uc,.int .i64 k1,.int .i64 o1,.string s1,.string t1,.int .i64 x1,.slice ua1 un1 uc1,.int .i64 k2,.int .i64 o2,.string s2,.string t2,.int .i64 x2,.slice ua2 un2 uc2] 24 (0,0)) by rw [←hwn,←hg9];exact heap_alloc_new wk _) (show b4<g9 by have h2:=(HNB.out wk T0.out).2.size;have:=HS.out.1;omega))
      go_wp2_with (fail)
      clear hwn hg9
      have H7:=Lib.hid (And.intro (H7.out.1.touch0 HT6.out) (And.intro H7.out.2.1 (H7.out.2.2.touch0 HT6.out)))
      have T0:=Lib.hid (T0.out.trans HT6.out fun _ _ f=>f.elim)
      clear HT6
      obtain ⟨wk,rfl⟩: ∃W,W=wn:=⟨_,rfl⟩
      repeat ((with_reducible refine Ux.qg ?_);refine Ux.qu ?_)
      have Tk:=Lib.hid (HNB.out wk T0.out).2
      have hf:=HF.out
      have hg:=HG.out.2
      have np9:NP wk (fun g=>lo≤g∧g≠b4) (.agg #[.int .i64 10,.int .i64 0,.string ⟨#[]⟩,.string ⟨#[]⟩,.int .i64 nn,.slice (some ⟨g9,0,none⟩) 3 3]):=NP.node 10 0 nn ⟨#[]⟩ ⟨#[]⟩ (by unfold i64B;omega) i64_0 HJ.out.1 (by decide) (by decide) _ 3 3 (Nat.le_refl _) (by decide) fun j hj=>by
       have:j=0∨j=1∨j=2:=by omega
       rcases this with rfl|rfl|rfl
       ·exact ⟨_,six_row HG.out.1 (by omega) 0 _ _ _ _ _ _ rfl rfl rfl rfl rfl rfl,(HR.out wk (Tk.out)).2.2.mono fun g _ h=>by have h1:=h.1;have h2:=h.2;have:=HF.out;exact ⟨h1,by omega⟩⟩
       ·exact ⟨_,six_row HG.out.1 (by omega) 1 _ _ _ _ _ _ rfl rfl rfl rfl rfl rfl,(HNB.out wk T0.out).1.mono fun g _ h=>by have h:b4<g:=h;omega⟩
       ·exact ⟨_,six_row HG.out.1 (by omega) 2 _ _ _ _ _ _ rfl rfl rfl rfl rfl rfl,H7.out.1.mono fun g _ h=>by have h:b4<g:=h;omega⟩
      have HN9:=Lib.hid np9
      clear np9 hf hg
      go_wp2_with (refine Ux.is_store 24 rfl ?_;refine Ux.store6 rfl 24 _ _ rfl b4 _ _ _ _ _ _ rfl rfl 24 _ _ _ _ _ _ (HR.out wk (Tk.out)).2.1 (by kernel_rfl) (Ux.six_one _ _ _ _ _ _ _ _) ?_)
      intro W9 r9 t9
      go_wp2_with (fail)
      have x0:=row6 r9 0
      have x1:=row6 r9 1
      have x2:=row6 r9 2
      have x3:=row6 r9 3
      have x4:=row6 r9 4
      have x5:=row6 r9 5
      simp at x0 x1 x2 x3 x4 x5
      refine bodyPost_ret (by simp [results,Try.results38,go_sem,x0,x1,x2,x3,x4,x5];try rfl) rfl ?_
      have T9:Ux.Touch (fun b=>b=q) w W9:=(HT1.out.trans (Tk.out) fun _ _ e=>e).trans t9 fun b hb e=>by have:=HF.out;have:=HS.out.2;omega
      exact ⟨_,_,_,_,_,_,_,_,rfl,((HN9.out:NP wk (fun g=>lo≤g∧g≠b4) _).touch t9 fun g _ h e=>h.2 e).mono fun g _ h=>h.1,⟨I8,E8,(fun h=>⟨rfl,by have:=H7.out.2.1 h;have:=HJ.out.2;omega⟩),H7.out.2.2.touch t9 fun b hb e=>by have:=HF.out;omega⟩,T9⟩
     |false=>
      have hps11:=H11.out.1.false
      have HPS11:=Lib.hid (And.intro hps11 H11.out.2)
      have HIIN:=Lib.hid (is_ q a n c J 0 D ⟨#[73,78]⟩ w10 hps11)
      clear hps11
      go_wp2_with (go_at_call 36;fail)
      refine HIIN.out.mono ?_
      rintro e w12 ⟨b12,rfl,hb12,T12⟩
      have H12:=Lib.hid (And.intro hb12 (And.intro (HPS11.out.1.touch0 T12) (HPS11.out.2.trans T12 fun _ _ f=>f.elim)))
      clear hb12 T12
      cases b12 with
      |true=>
       have hlt:J<n:=H12.out.1 (by simp)
       have HLT:=Lib.hid hlt
       obtain ⟨hps13,T13⟩:=(H12.out.2.1).setI (J:=J+1) hlt
       obtain ⟨_,d1,_,_⟩:=(H12.out.2.1).cells
       have f1:=(H12.out.2.1).frozen 1
       have j0:(0:Int)≤J:=by omega
       have j4:(J:Int)≤4000:=by have h1:=(H12.out.2.1).hn;omega
       obtain ⟨W13,hW13⟩: ∃W,w12.setCell ⟨q,1,none⟩ (.int .i64 ((J:Int)+1))=W:=⟨_,rfl⟩
       have hps13:PS W13 q a n c (J+1) 0 D:=by rw [←hW13];exact hps13
       have T13:Ux.Touch (fun b=>b=q) w12 W13:=by rw [←hW13];exact T13
       have H13:=Lib.hid (And.intro hps13 (H12.out.2.2.trans T13 fun _ _ e=>e))
       clear hps13 T13 hlt
       obtain ⟨c30,c31,c32,c33,c34,c35⟩:=HC.out W13 (H13.out.2)
       obtain ⟨g9,hg9⟩: ∃X,W13.heap.size=X:=⟨_,rfl⟩
       obtain ⟨X9,hX9⟩: ∃W,W13.alloc (.cells #[.int .i64 k,.int .i64 o,.string s,.string t,.int .i64 x,.slice ua un uc] 24)=W:=⟨_,rfl⟩
       have u9g:Ux.Touch (fun _=>False) W13 X9:=by rw [←hX9];exact (Ux.Touch.refl _ _).alloc _
       have rg9:X9.heap[g9]? =some (.cells #[.int .i64 k,.int .i64 o,.string s,.string t,.int .i64 x,.slice ua un uc] 24 (0,0)):=by rw [←hX9,←hg9];exact heap_alloc_new W13 _
       go_upto_region 31 with (fail)
       clear hW13 d1 f1 j0 j4
       obtain ⟨b7,hb7⟩: ∃b,X9.heap.size=b:=⟨_,rfl⟩
       obtain ⟨Z7,hZ7⟩: ∃W,X9.alloc (.cells #[.int .i64 0,.int .i64 0,.string ⟨#[]⟩,.string ⟨#[]⟩,.int .i64 0,.slice none 0 0] 24)=W:=⟨_,rfl⟩
       have rz7:Z7.heap[b7]? =some (.cells #[.int .i64 0,.int .i64 0,.string ⟨#[]⟩,.string ⟨#[]⟩,.int .i64 0,.slice none 0 0] 24 (0,0)):=by rw [←hZ7,←hb7];exact heap_alloc_new X9 _
       have tz7:Ux.Touch (fun _=>False) X9 Z7:=by rw [←hZ7];exact (Ux.Touch.refl _ _).alloc _
       go_wp2_with (refine Ux.is_store 24 rfl ?_;refine Ux.store6 rfl 24 _ _ rfl b7 _ _ _ _ _ _ rfl rfl 24 _ _ _ _ _ _ rz7 (by kernel_rfl) (Ux.six_one _ _ _ _ _ _ _ _) ?_)
       intro W7 r7 t7
       have u7:Ux.Touch (fun _=>False) X9 W7:=tz7.trans (R:=fun _=>False) t7 fun b hb e=>by omega
       clear hX9 hZ7 rz7 tz7 t7
       clear c30 c31 c32 c33 c34 c35
       have s13:=H13.out.2.size
       have hsz:b4<g9∧g9<b7∧q<g9:=by have:=HS.out.1;have:=HF.out;have:=Ux.lt_of_heap rg9;have:=u9g.size;omega
       have T7:Ux.Touch (fun b=>b=q) W1 W7:=(H13.out.2.trans u9g fun _ _ f=>f.elim).trans u7 fun _ _ f=>f.elim
       have HX:=Lib.hid (And.intro r7 (And.intro (u7.heap rg9 (fun f=>f)) (And.intro T7 (And.intro ((H13.out.1.touch0 u9g).touch0 u7) hsz))))
       have HRX:=Lib.hid fun W (T:Ux.Touch (fun b=>b=q) W7 W)=>And.intro (T.heap HX.out.1 (by have:=HX.out.2.2.2.2;omega)) (And.intro (T.heap HX.out.2.1 (by have:=HX.out.2.2.2.2;omega)) (HX.out.2.2.1.trans T fun _ _ e=>e))
       clear r7 rg9 u9g u7 s13 hsz T7 hg9 hb7
       have y5:=row6 HX.out.1 5
       simp at y5
       have HC5:=Lib.hid fun W (T:Ux.Touch (fun b=>b=q) W7 W)=>(show W.cell? ⟨b7,5,none⟩=some (.slice (some ⟨g9,0,none⟩) 1 1) by have h:=row6 (HRX.out W T).1 5;simp at h;exact h)
       go_upto_region 32 with (fail)
       go_cut [] (fun wx=> ∃(ra:Option Addr) (rn rc I7 E7:Nat),Hid (wx.heap[b7]? =some (.cells #[.int .i64 9,.int .i64 0,.string ⟨#[]⟩,.string ⟨#[]⟩,.int .i64 nn,.slice ra rn rc] 24 (0,0))∧NP wx (fun g=>lo≤g∧g≠b4) (.agg #[.int .i64 9,.int .i64 0,.string ⟨#[]⟩,.string ⟨#[]⟩,.int .i64 nn,.slice ra rn rc])∧PS wx q a n c I7 E7 D∧(E7=0→I≤I7)∧Ux.Touch (fun b=>b=q) W1 wx))
       case first=>
        obtain ⟨wk,hwk⟩: ∃W,W7.drew=W:=⟨_,rfl⟩
        have Tk:=Lib.hid (show Ux.Touch (fun b=>b=q) W7 wk by rw [←hwk];exact (Ux.Touch.refl _ _).drew)
        have HLI:=Lib.hid fun W (h:PS W q a n c (J+1) 0 D)=>list_ q a n c m HM.out.2.2 (J+1) 0 D W h (.inr (by have:=HM2.out;have:=HJ.out.2;omega))
        have HPK:=Lib.hid (show PS wk q a n c (J+1) 0 D by rw [←hwk];exact HX.out.2.2.2.1.touch0 (Ux.Touch.refl _ _).drew)
        refine Ux.wpr (fun _ w'=>w'.cell? ⟨b7,5,none⟩=some (.slice (some ⟨g9,0,none⟩) 1 1)) (.q [0,2] (.h false [1] (.e 3 true false (.e 4 false false (.line [5,6]))))) ?_;repeat ((with_reducible refine Ux.qg ?_);refine Ux.qu ?_)
        go_wp2_with (go_at_call 54;fail)
        refine (HLI.out wk HPK.out).mono ?_
        rintro e wn ⟨ua2,un2,uc2,rfl,⟨hng2,hun2⟩,⟨I7,E7,hI7,hps7⟩,T7⟩
        have hsz:=Ux.lt_of_heap (HRX.out wk Tk.out).1
        have hx:=HX.out.2.2.2.2
        have hf:=HF.out
        have H7:=Lib.hid (And.intro (hng2.mono (lo':=wk.heap.size) (A':=fun g=>lo≤g∧g≠b4∧g≠b7∧g≠g9) (Nat.le_refl _) fun g _ h=>by have h:=h.1;omega) (And.intro hun2 (And.intro hI7 hps7)))
        clear hng2 hun2 hI7 hps7 hsz hx hf
        go_wp2_with (fail)
        have Tk:=Lib.hid (Tk.out.trans T7 fun _ _ e=>e)
        clear T7
        obtain ⟨wk,rfl⟩: ∃W,W=wn:=⟨_,rfl⟩
        refine ⟨HC5.out _ Tk.out,?_⟩
        obtain ⟨xs2,hk2,hn2⟩:=H7.out.1
        have hx:=HX.out.2.2.2.2
        have hf:=HF.out
        have hr:=HRX.out wk Tk.out
        have hsz:=Ux.lt_of_heap hr.1
        have hsg:=Ux.lt_of_heap hr.2.1
        have hng1:NG wk (b4+1) (fun g=>lo≤g∧g≠b4∧g≠b7∧g≠g9) (.slice (some ⟨g9,0,none⟩) 1 1) 1:=NG.fresh _ hr.2.1 rfl (by omega) (by decide) (NL.one ((HR.out wk hr.2.2).2.2.mono fun g _ h=>by have h1:=h.1;have h2:=h.2;exact ⟨h1,by omega,by omega,by omega⟩))
        obtain ⟨r,wn,hrun,hng7,t7,hown⟩:=hng1.app2 _ un2 _ (src_grow hk2 hn2) hn2 (fun g _ h e=>by cases e;exact h.2.2.2 rfl) (by omega) (by decide) (by have:=H7.out.2.1;omega)
        obtain ⟨ra,rc,rfl⟩: ∃ra rc,r= .slice ra (1+un2) rc:=by obtain ⟨xs,h1,_⟩:=hng7;obtain ⟨a',c',e,_⟩:=h1.is;exact ⟨a',c',e⟩
        have r7n:=t7.heap hr.1 fun e=>by have e:g9=_:=Option.some.inj e.2;omega
        have z5:=row6 r7n 5
        simp at z5
        have f5:=Ux.frozen_row r7n 5
        have H8:=Lib.hid (And.intro hrun (And.intro hng7 (And.intro r7n (And.intro (H7.out.2.2.2.touch t7 fun b hb e=>by have e:g9=_:=Option.some.inj e.2;omega) (And.intro (hr.2.2.trans t7 fun b hb e=>by have e:g9=_:=Option.some.inj e.2;have:=HS.out.1;omega) (fun g (hg:(Value.slice ra (1+un2) rc).ownBlock=some g)=>(by rcases hown g hg with h|h;(have h:g9=g:=Option.some.inj h;omega);omega:g≠b7)))))))
        have HN2:=Lib.hid (And.intro H7.out.2.1 (fun h=>by have h1:=(H7.out.2.2.1 h).2;omega:E7=0→J+1≤I7))
        clear hk2 hn2 hx hf hr hsz hsg hng1 hrun hng7 t7 hown r7n
        go_wp2_with (at_builtin;refine Ux.wpList_app (v1:= .slice (some ⟨g9,0,none⟩) 1 1) (x1:= .slice ua2 un2 uc2) rfl _ _ _ _ rfl rfl rfl (H8.out.1 _) ?_)
        go_wp2_with (fail)
        go_meet
        have t18:Ux.Touch (fun b=>b=b7) wn (wn.setCell ⟨b7,5,none⟩ (.slice ra (1+un2) rc)):=(Ux.Touch.refl (fun b=>b=b7) wn).setCell (p:=⟨b7,5,none⟩) (fun _=>rfl) _
        have hx:=HX.out.2.2.2.2
        have hf:=HF.out
        have ng18:=H8.out.2.1.touch2 t18 (fun g _ h e=>h.1.2.2.1 e) (fun g _ h e=>H8.out.2.2.2.2.2 g h e)
        refine ⟨ra,1+un2,rc,I7,E7,Lib.hid ⟨Ux.setCell_row H8.out.2.2.1 5 _,NP.grown (ng18.mono (A':=fun g=>lo≤g∧g≠b4) (Nat.le_refl _) fun g _ h=>⟨h.1.1,h.1.2.1⟩) (fun g h=>by omega) (by have:=HN2.out.1;omega) 9 0 nn ⟨#[]⟩ ⟨#[]⟩ (by unfold i64B;omega) i64_0 HJ.out.1 (by decide) (by decide),H8.out.2.2.2.1.touch t18 fun b hb e=>by omega,(fun h=>by have:=HN2.out.2 h;have:=HJ.out.2;omega),H8.out.2.2.2.2.1.trans t18 fun b hb e=>by have:=HS.out.1;omega⟩⟩
       obtain ⟨ra,rn,rc,I7,E7,hcut⟩:=hcut
       obtain ⟨W20,rfl⟩: ∃W,W=wc:=⟨_,rfl⟩
       have z0:=row6 hcut.out.1 0
       have z1:=row6 hcut.out.1 1
       have z2:=row6 hcut.out.1 2
       have z3:=row6 hcut.out.1 3
       have z4:=row6 hcut.out.1 4
       have z5:=row6 hcut.out.1 5
       simp at z0 z1 z2 z3 z4 z5
       go_wp2_with (refine Ux.is_store 24 rfl ?_;refine Ux.store6 rfl 24 _ _ rfl b4 _ _ _ _ _ _ rfl rfl 24 _ _ _ _ _ _ (HR.out W20 hcut.out.2.2.2.2).2.1 (by kernel_rfl) (Ux.six_one _ _ _ _ _ _ _ _) ?_)
       intro W9 r9 t9
       go_wp2_with (fail)
       clear z0 z1 z2 z3 z4 z5
       have x0:=row6 r9 0
       have x1:=row6 r9 1
       have x2:=row6 r9 2
       have x3:=row6 r9 3
       have x4:=row6 r9 4
       have x5:=row6 r9 5
       simp at x0 x1 x2 x3 x4 x5
       refine bodyPost_ret (by simp [results,Try.results38,go_sem,x0,x1,x2,x3,x4,x5];try rfl) rfl ?_
       have T9:Ux.Touch (fun b=>b=q) w W9:=(HT1.out.trans hcut.out.2.2.2.2 fun _ _ e=>e).trans t9 fun b hb e=>by have:=HF.out;have:=HS.out.2;omega
       exact ⟨_,_,_,_,_,_,_,_,rfl,(hcut.out.2.1.touch t9 fun g _ h e=>h.2 e).mono fun g _ h=>h.1,⟨I7,E7,(fun h=>⟨rfl,hcut.out.2.2.2.1 h⟩),hcut.out.2.2.1.touch t9 fun b hb e=>by have:=HF.out;omega⟩,T9⟩
      |false=>
       by_cases hnn:nn=1
       ·have k1:(nn==1)=true:=by rw [hnn];rfl
        have HFL:=Lib.hid (fail_ q a n c J 0 D 10 (by decide) 10 rfl w12 H12.out.2.1)
        clear hnn
        go_wp2_with (go_at_call 31;fail)
        refine HFL.out.mono ?_
        rintro e w13 ⟨rfl,h13,T13⟩
        have H13:=Lib.hid (And.intro h13 (H12.out.2.2.trans T13 fun _ _ e=>e))
        clear h13 T13
        obtain ⟨c30,c31,c32,c33,c34,c35⟩:=HC.out w13 (H13.out.2)
        go_wp2_with (refine Ux.is_store 24 rfl ?_;refine Ux.store6 rfl 24 _ _ rfl b4 _ _ _ _ _ _ rfl rfl 24 _ _ _ _ _ _ (HR.out w13 (H13.out.2)).2.1 (by kernel_rfl) (Ux.six_one _ _ _ _ _ _ _ _) ?_)
        intro W9 r9 t9
        go_wp2_with (fail)
        have x0:=row6 r9 0
        have x1:=row6 r9 1
        have x2:=row6 r9 2
        have x3:=row6 r9 3
        have x4:=row6 r9 4
        have x5:=row6 r9 5
        simp at x0 x1 x2 x3 x4 x5
        refine bodyPost_ret (by simp [results,Try.results38,go_sem,x0,x1,x2,x3,x4,x5];try rfl) rfl ?_
        have T9:Ux.Touch (fun b=>b=q) w W9:=(HT1.out.trans (H13.out.2) fun _ _ e=>e).trans t9 fun b hb e=>by have:=HF.out;have:=HS.out.2;omega
        exact ⟨_,_,_,_,_,_,_,_,rfl,(((HR.out w13 (H13.out.2)).2.2.mono fun g _ h=>by have h1:=h.1;have h2:=h.2;have:=HF.out;exact ⟨h1,by omega⟩:NP w13 (fun g=>lo≤g∧g≠b4) _).touch t9 fun g _ h e=>h.2 e).mono fun g _ h=>h.1,⟨J,_,(fun h=>by cases h),H13.out.1.touch t9 fun b hb e=>by have:=HF.out;omega⟩,T9⟩
       ·have k1:(nn==1)=false:=beq_false_of_ne hnn
        clear hnn
        obtain ⟨c30,c31,c32,c33,c34,c35⟩:=HC.out w12 (H12.out.2.2)
        go_wp2_with (refine Ux.is_store 24 rfl ?_;refine Ux.store6 rfl 24 _ _ rfl b4 _ _ _ _ _ _ rfl rfl 24 _ _ _ _ _ _ (HR.out w12 (H12.out.2.2)).2.1 (by kernel_rfl) (Ux.six_one _ _ _ _ _ _ _ _) ?_)
        intro W9 r9 t9
        go_wp2_with (fail)
        have x0:=row6 r9 0
        have x1:=row6 r9 1
        have x2:=row6 r9 2
        have x3:=row6 r9 3
        have x4:=row6 r9 4
        have x5:=row6 r9 5
        simp at x0 x1 x2 x3 x4 x5
        refine bodyPost_ret (by simp [results,Try.results38,go_sem,x0,x1,x2,x3,x4,x5];try rfl) rfl ?_
        have T9:Ux.Touch (fun b=>b=q) w W9:=(HT1.out.trans (H12.out.2.2) fun _ _ e=>e).trans t9 fun b hb e=>by have:=HF.out;have:=HS.out.2;omega
        exact ⟨_,_,_,_,_,_,_,_,rfl,(((HR.out w12 (H12.out.2.2)).2.2.mono fun g _ h=>by have h1:=h.1;have h2:=h.2;have:=HF.out;exact ⟨h1,by omega⟩:NP w12 (fun g=>lo≤g∧g≠b4) _).touch t9 fun g _ h e=>h.2 e).mono fun g _ h=>h.1,⟨J,0,(fun h=>⟨rfl,HJ.out.2⟩),H12.out.2.1.touch t9 fun b hb e=>by have:=HF.out;omega⟩,T9⟩
end Go.Proofs.Ytmonfaepfbpdpaa
