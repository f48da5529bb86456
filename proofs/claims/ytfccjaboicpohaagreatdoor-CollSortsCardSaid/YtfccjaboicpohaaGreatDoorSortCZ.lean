/- A part of the proof that the statement holds for every input that it names. No other condition. -/
import Derived.Test.YtfccjaboicpohaaGreatDoorSortAZ
import Derived.Test.YtfccjaboicpohaaGreatDoorMadeAZ
set_option linter.unusedVariables false
set_option linter.unusedSimpArgs false
namespace Go.Proofs.YtfccjaboicpohaaGreatDoor
open Go.RowKit
open Ux (Row StEq Srt Out)
theorem SAt.mono {K:ByteArray→ByteArray} {g N c:Nat} {w w1:World} {l m:List ByteArray} {a b a' b':Nat} (h:SAt K g N c w l a b m w1) (h1:a'≤a) (h2:b≤b'):SAt K g N c w l a' b' m w1:=⟨h.eq,h.out.mono h1 h2,h.row,h.touch⟩
theorem SAt.trans {K:ByteArray→ByteArray} {g N c:Nat} {w w1 w2:World} {l m t:List ByteArray} {a b:Nat} (h:SAt K g N c w l a b m w1) (k:SAt K g N c w1 m a b t w2):SAt K g N c w l a b t w2:=⟨h.eq.trans k.eq,h.out.trans k.out,k.row,h.touch.trans k.touch fun _ _ h=>h⟩
set_option maxHeartbeats 16000000 in
set_option maxRecDepth 100000 in
theorem stable_ (g N c:Nat) (cs:Value) (K:ByteArray→ByteArray) (w0:World) (l:List ByteArray) (w:World) (h:TRow w g N c l) (hN:N≤40) (hC:CmpOk w0 cs K) (hg:w0.heap.size≤g) (hT:Ux.Touch (fun _=>False) w0 w) (hs: ∀x∈l,x.size≤1000000) (hsym: ∀D,SymAll g N c cs K w0 D):
 Calls Tryz.prog 121 #[.slice (some ⟨g,0,none⟩) N c,.int .i64 N,.func (.func 29) #[cs] #[]] w fun e w'=>e= .returned (.tuple #[])∧∃m,SAt K g N c w l 0 N m w'∧Srt K m 0 N:=by
 have N0:(N:Int)≤40:=by omega
 have HI:=Lib.hid fun (m:List ByteArray) (a b:Nat) W (hA:SAt K g N c w l 0 N m W) (h1:a≤N) (h2:b≤N)=>ins_ g N c cs K w0 m a b W hA.row (by omega) h1 h2 hC hg (hT.trans hA.touch fun k hk e=>by omega) (fun x hx=>hs x (hA.eq.mem hx))
 have HY:=Lib.hid fun (m:List ByteArray) (a d b:Nat) W (hA:SAt K g N c w l 0 N m W) (h1:a<d) (h2:d<b) (h3:b≤N) (s1:Srt K m a d) (s2:Srt K m d b)=>hsym b a d b m W (by omega) h1 h2 h3 hA.row (hT.trans hA.touch fun k hk e=>by omega) (fun x hx=>hs x (hA.eq.mem hx)) s1 s2
 have H0:=Lib.hid (SAt.start (K:=K) 0 N h)
 have HN:=Lib.hid hN
 clear h hC hg hT hs hN hsym
 have hcs:N<20∨N=20∨(20<N∧N<40)∨N=40:=by have:=HN.out;omega
 rcases hcs with hc|hc|hc|hc
 ·have q1: ¬(20:Int)≤N:=by omega
  have q2: ¬(20:Int)<N:=by omega
  have HE:=Lib.hid hc
  clear hc
  go_enter Tryz.func121,Tryz.ntmps121
  go_wp2_with (fail)
  refine wp_loop_rounds 4 ?_
  rw [rounds_succ]
  go_wp2_with (go_at_call 167;fail)
  refine (HI.out l 0 N w H0.out (by have:=HN.out;have:=HE.out;omega) (by have:=HN.out;have:=HE.out;omega)).mono ?_
  rintro z w1 ⟨rfl,m1,hA,hS⟩
  have H1:=Lib.hid (And.intro (H0.out.trans (hA.mono (Nat.zero_le _) (by have:=HN.out;have:=HE.out;omega))) (And.intro hS hA.out))
  clear hA hS
  go_wp2_with (fail)
  refine wp_loop_rounds 2 ?_
  rw [rounds_succ]
  go_wp2
  go_end0
  exact ⟨rfl,m1,H1.out.1,H1.out.2.1⟩
 ·have q1:(20:Int)≤N:=by omega
  have q2: ¬(20:Int)<N:=by omega
  have q3: ¬(40:Int)≤N:=by omega
  have HE:=Lib.hid hc
  clear hc
  go_enter Tryz.func121,Tryz.ntmps121
  go_wp2_with (fail)
  refine wp_loop_rounds 4 ?_
  rw [rounds_succ]
  go_wp2_with (go_at_call 167;fail)
  refine (HI.out l 0 20 w H0.out (by have:=HN.out;have:=HE.out;omega) (by have:=HN.out;have:=HE.out;omega)).mono ?_
  rintro z w1 ⟨rfl,m1,hA,hS⟩
  have H1:=Lib.hid (And.intro (H0.out.trans (hA.mono (Nat.zero_le _) (by have:=HN.out;have:=HE.out;omega))) (And.intro hS hA.out))
  clear hA hS
  go_wp2_with (fail)
  rw [rounds_succ]
  go_wp2_with (go_at_call 167;fail)
  refine (HI.out m1 20 N w1 H1.out.1 (by have:=HN.out;have:=HE.out;omega) (by have:=HN.out;have:=HE.out;omega)).mono ?_
  rintro z w2 ⟨rfl,m2,hA,hS⟩
  have H2:=Lib.hid (And.intro (H1.out.1.trans (hA.mono (Nat.zero_le _) (by have:=HN.out;have:=HE.out;omega))) (And.intro hS hA.out))
  clear hA hS
  go_wp2_with (fail)
  refine wp_loop_rounds 2 ?_
  rw [rounds_succ]
  go_wp2
  go_end0
  exact ⟨rfl,m2,H2.out.1,by have:=H1.out.2.1.out H2.out.2.2 (.inl (Nat.le_refl _));rwa [←HE.out] at this⟩
 ·have q1:(20:Int)≤N:=by omega
  have q2:(20:Int)<N:=by omega
  have q3: ¬(40:Int)≤N:=by omega
  have q4: ¬(40:Int)<N:=by omega
  have HE:=Lib.hid hc
  clear hc
  go_enter Tryz.func121,Tryz.ntmps121
  go_wp2_with (fail)
  refine wp_loop_rounds 4 ?_
  rw [rounds_succ]
  go_wp2_with (go_at_call 167;fail)
  refine (HI.out l 0 20 w H0.out (by have:=HN.out;have:=HE.out;omega) (by have:=HN.out;have:=HE.out;omega)).mono ?_
  rintro z w1 ⟨rfl,m1,hA,hS⟩
  have H1:=Lib.hid (And.intro (H0.out.trans (hA.mono (Nat.zero_le _) (by have:=HN.out;have:=HE.out;omega))) (And.intro hS hA.out))
  clear hA hS
  go_wp2_with (fail)
  rw [rounds_succ]
  go_wp2_with (go_at_call 167;fail)
  refine (HI.out m1 20 N w1 H1.out.1 (by have:=HN.out;have:=HE.out;omega) (by have:=HN.out;have:=HE.out;omega)).mono ?_
  rintro z w2 ⟨rfl,m2,hA,hS⟩
  have H2:=Lib.hid (And.intro (H1.out.1.trans (hA.mono (Nat.zero_le _) (by have:=HN.out;have:=HE.out;omega))) (And.intro hS hA.out))
  clear hA hS
  go_wp2_with (fail)
  refine wp_loop_rounds 3 ?_
  rw [rounds_succ]
  go_wp2_with (fail)
  refine wp_loop_rounds 2 ?_
  rw [rounds_succ]
  go_wp2_with (go_at_call 168;fail)
  refine (HY.out m2 0 20 N w2 H2.out.1 (by omega) (by have:=HE.out;omega) (Nat.le_refl _) (H1.out.2.1.out H2.out.2.2 (.inl (Nat.le_refl _))) H2.out.2.1).mono ?_
  rintro z w3 ⟨rfl,m3,hA,hS⟩
  have H3:=Lib.hid (And.intro (H2.out.1.trans (hA.mono (Nat.zero_le _) (by have:=HN.out;have:=HE.out;omega))) (And.intro hS hA.out))
  clear hA hS
  go_wp2_with (fail)
  rw [rounds_succ]
  go_wp2
  go_end0
  exact ⟨rfl,m3,H3.out.1,H3.out.2.1⟩
 ·have q1:(20:Int)≤N:=by omega
  have q2:(20:Int)<N:=by omega
  have q3:(40:Int)≤N:=by omega
  have q4: ¬(40:Int)<N:=by omega
  have q5: ¬(60:Int)≤N:=by omega
  have q6: ¬(80:Int)≤N:=by omega
  have q7: ¬(60:Int)<N:=by omega
  have HE:=Lib.hid hc
  clear hc
  go_enter Tryz.func121,Tryz.ntmps121
  go_wp2_with (fail)
  refine wp_loop_rounds 4 ?_
  rw [rounds_succ]
  go_wp2_with (go_at_call 167;fail)
  refine (HI.out l 0 20 w H0.out (by have:=HN.out;have:=HE.out;omega) (by have:=HN.out;have:=HE.out;omega)).mono ?_
  rintro z w1 ⟨rfl,m1,hA,hS⟩
  have H1:=Lib.hid (And.intro (H0.out.trans (hA.mono (Nat.zero_le _) (by have:=HN.out;have:=HE.out;omega))) (And.intro hS hA.out))
  clear hA hS
  go_wp2_with (fail)
  rw [rounds_succ]
  go_wp2_with (go_at_call 167;fail)
  refine (HI.out m1 20 40 w1 H1.out.1 (by have:=HN.out;have:=HE.out;omega) (by have:=HN.out;have:=HE.out;omega)).mono ?_
  rintro z w2 ⟨rfl,m2,hA,hS⟩
  have H2:=Lib.hid (And.intro (H1.out.1.trans (hA.mono (Nat.zero_le _) (by have:=HN.out;have:=HE.out;omega))) (And.intro hS hA.out))
  clear hA hS
  go_wp2_with (fail)
  rw [rounds_succ]
  go_wp2_with (go_at_call 167;fail)
  refine (HI.out m2 40 N w2 H2.out.1 (by have:=HN.out;have:=HE.out;omega) (by have:=HN.out;have:=HE.out;omega)).mono ?_
  rintro z w3 ⟨rfl,m3,hA,hS⟩
  have H3:=Lib.hid (And.intro (H2.out.1.trans (hA.mono (Nat.zero_le _) (by have:=HN.out;have:=HE.out;omega))) (And.intro hS hA.out))
  clear hA hS
  go_wp2_with (fail)
  refine wp_loop_rounds 3 ?_
  rw [rounds_succ]
  go_wp2_with (fail)
  refine wp_loop_rounds 3 ?_
  rw [rounds_succ]
  go_wp2_with (go_at_call 168;fail)
  refine (HY.out m3 0 20 40 w3 H3.out.1 (by omega) (by omega) (by have:=HE.out;omega) ((H1.out.2.1.out H2.out.2.2 (.inl (Nat.le_refl _))).out H3.out.2.2 (.inl (by omega))) (H2.out.2.1.out H3.out.2.2 (.inl (Nat.le_refl _)))).mono ?_
  rintro z w4 ⟨rfl,m4,hA,hS⟩
  have H4:=Lib.hid (And.intro (H3.out.1.trans (hA.mono (Nat.zero_le _) (by have:=HN.out;have:=HE.out;omega))) (And.intro hS hA.out))
  clear hA hS
  go_wp2_with (fail)
  rw [rounds_succ]
  go_wp2_with (fail)
  rw [rounds_succ]
  go_wp2
  go_end0
  exact ⟨rfl,m4,H4.out.1,by have:=H4.out.2.1;rwa [←HE.out] at this⟩
set_option maxHeartbeats 4000000 in
theorem ssf_ (g N c:Nat) (cs:Value) (K:ByteArray→ByteArray) (w0:World) (l:List ByteArray) (w:World) (h:TRow w g N c l) (hN:N≤40) (hC:CmpOk w0 cs K) (hg:w0.heap.size≤g) (hT:Ux.Touch (fun _=>False) w0 w) (hs: ∀x∈l,x.size≤1000000) (hsym: ∀D,SymAll g N c cs K w0 D):
 Calls Tryz.prog 76 #[.slice (some ⟨g,0,none⟩) N c,.func (.func 29) #[cs] #[]] w fun e w'=>e= .returned (.tuple #[])∧∃m,SAt K g N c w l 0 N m w'∧Srt K m 0 N:=by
 have HS:=Lib.hid (stable_ g N c cs K w0 l w h hN hC hg hT hs hsym)
 clear h hN hC hg hT hs hsym
 go_enter Tryz.func76,Tryz.ntmps76
 go_wp2_with (go_at_call 121;fail)
 refine HS.out.mono ?_
 rintro z w1 ⟨rfl,m,hA,hS⟩
 have H1:=Lib.hid (And.intro hA hS)
 clear hA hS
 go_wp2
 go_end0
 exact ⟨rfl,m,H1.out⟩
end Go.Proofs.YtfccjaboicpohaaGreatDoor
namespace Go.Proofs.YtfccjaboicpohaaGreatDoor
open Go.RowKit
open Ux (Row KGrow StEq Srt Out TView SCap Ent)
theorem infoS:(Tryz.prog.info? 9).map (fun i=>(i.zero,i.size,i.bytes))=some (some (.string ⟨#[]⟩),1,16):=by kernel_rfl
theorem tv_one (l:List ByteArray): ∀u∈tv l,u.oneCell'=true:=fun u hu=>by obtain ⟨b,_,rfl⟩:=List.mem_map.1 hu;rfl
theorem tview_src {w:World} {v:Value} {l:List ByteArray} (h:TView w v l):Src Tryz.prog 1 42 v l.length (tv l) w:=by
 obtain ⟨a,c,rfl,_,hc⟩:=h
 cases l with
 |nil=>
  cases a with
  |none=>exact Src.ofNil w Tryz.underlying42 c
  |some ad=>exact Src.ofSlice w Tryz.underlying42 ad 0 c [] rfl (fun j u hj=>by simp at hj) (fun u hu=>by cases hu)
 |cons x l=>
  obtain ⟨_,b,f,rfl,_,_⟩:=hc 0 x rfl
  refine Src.ofSlice w Tryz.underlying42 ⟨b,f,none⟩ (x::l).length c (tv (x::l)) (by rw [tv_length,Nat.mul_one]) (fun j u hj=> ?_) (tv_one _)
  have hjl:=(List.getElem?_eq_some_iff.1 hj).1
  rw [tv_length] at hjl
  obtain ⟨y,hy⟩:=get_lt (l:=x::l) hjl
  rw [tv_get hy] at hj
  cases hj
  obtain ⟨_,b',f',e,_,hcell⟩:=hc j y hy
  cases e
  rw [Addr.add_mid]
  exact hcell
theorem copyS (W:World) (b:Nat) (hb:W.heap[b]? =some (.cells #[] 9 (0,0))) (u:Value) (ys:List ByteArray) (hu:TView W u ys) (hy:ys.length≤1000000):
 ∃r w',(∀ty,(Builtin.append_ #[42,42] ty #[.slice (some ⟨b,0,none⟩) 0 0,u]).run Tryz.prog W= .ok r w')∧Row w' 0 9 r (tv ys)∧Ux.Touch (fun x=>x=b) W w'∧(∀x,r.ownBlock=some x→x=b∨W.heap.size≤x)∧∃g c,r= .slice (some ⟨g,0,none⟩) ys.length c∧c≤maxLen:=by
 have hlt:=Ux.lt_of_heap hb
 have hG:KGrow W 0 9 1 (.slice (some ⟨b,0,none⟩) 0 0) 0 []:=⟨⟨rfl,.inr ⟨b,0,#[],rfl,Nat.zero_le _,hb,Nat.le_refl _,Nat.zero_le _,rfl,rfl⟩⟩,fun x hx=>Nat.zero_le _⟩
 obtain ⟨r,w',h1,h2,h3,h4⟩:=hG.app' 42 16 (.string ⟨#[]⟩) Tryz.underlying42 infoS rfl (by omega) u _ (tv ys) (tview_src hu) (Nat.zero_le _) (by simp only [maxLen];omega) (by omega)
 have hrow:=(Row.own h2.1 h2.2).1
 rw [List.nil_append] at hrow
 refine ⟨r,w',h1,hrow,?_,?_,?_⟩
 ·exact h3.mono fun x _ hx=>by
   have:=hx.2
   simp [Value.ownBlock] at this
   exact this.symm
 ·intro x hx
  rcases h4 with e|⟨g,e,hg⟩
  ·rw [e] at hx
   simp [Value.ownBlock] at hx
   exact .inl hx.symm
  ·rw [e] at hx
   cases hx
   exact .inr hg
 ·have hn:=h2.1.2
  rcases hn with ⟨e,_⟩|⟨g,cap,cur,e,_,_,_,hm,_⟩
  ·rcases h4 with e4|⟨g,e4,_⟩
   ·rw [e] at e4;cases e4
   ·rw [e] at e4;cases e4
  ·exact ⟨g,cap,by rw [e,Nat.zero_add],hm⟩
set_option maxHeartbeats 4000000 in
set_option maxRecDepth 100000 in
theorem clip_ (a:Option Addr) (n c:Nat) (w:World) (hn:n≤c) (hc:c≤9223372036854775807) (ha: ∃ad,a=some ad):Calls Tryz.prog 74 #[.slice a n c] w fun e w'=>e= .returned (.slice a n n)∧w'=w:=by
 obtain ⟨ad,rfl⟩:=ha
 have h1:(n:Int)≤c:=by omega
 have h2:(c:Int)≤9223372036854775807:=by omega
 clear hn hc
 go_enter Tryz.func74,Tryz.ntmps74
 go_wp2
 go_returns
 exact ⟨rfl,rfl⟩
set_option maxHeartbeats 4000000 in
set_option maxRecDepth 100000 in
theorem clone_ (ad:Addr) (n c:Nat) (l:List ByteArray) (w:World) (h:TView w (.slice (some ad) n c) l) (hl:l.length≤1000000):Calls Tryz.prog 75 #[.slice (some ad) n c] w fun e w'=> ∃g cc,e= .returned (.slice (some ⟨g,0,none⟩) n cc)∧n≤cc∧cc≤maxLen∧w.heap.size≤g∧TRow w' g n cc l∧Ux.Touch (fun _=>False) w w':=by
 have hn:l.length=n:=by obtain ⟨_,_,e,_⟩:=h;cases e;rfl
 obtain ⟨q,hq⟩: ∃q,w.heap.size=q:=⟨_,rfl⟩
 have hb:(w.alloc (.cells #[] 9)).heap[q]? =some (.cells #[] 9 (0,0)):=by rw [←hq];exact heap_alloc_new w _
 have T1:Ux.Touch (fun _=>False) w (w.alloc (.cells #[] 9)):=(Ux.Touch.refl _ _).alloc _
 obtain ⟨r,w2,hrun,hrow,T2,hown,g,cc,hr,hcm⟩:=copyS _ q hb _ l (h.touch T1) hl
 have hrc:=hrow
 subst hr
 rw [hn] at hrun hrow hown
 have hcap:n≤cc:=by
  rw [hn] at hrc
  rcases hrc with ⟨e,_⟩|⟨g',c',cur,e,_,_,h1,_⟩
  ·cases e
  ·cases e;rw [tv_length] at h1;omega
 have hgq:q≤g:=by
  rcases hown g rfl with e|e
  ·omega
  ·rw [World.size_alloc] at e;omega
 have HR:=Lib.hid hrun
 have HF:=Lib.hid (And.intro hcap (And.intro hcm (And.intro (show w.heap.size≤g by omega) (And.intro (show TRow w2 g n cc l from ⟨hn,hrow⟩) (T1.trans T2 fun b hb e=>by omega)))))
 clear h hl hn hb T1 hrun hrow T2 hown hrc hcap hgq hcm
 go_enter Tryz.func75,Tryz.ntmps75
 go_wp2_with (at_builtin;refine Ux.wpList_app (v1:= .slice (some ⟨_,0,none⟩) 0 0) (x1:= .slice (some ad) n c) rfl _ _ _ _ rfl rfl rfl (HR.out _) ?_)
 go_returns
 exact ⟨g,cc,rfl,HF.out⟩
end Go.Proofs.YtfccjaboicpohaaGreatDoor
namespace Go.Proofs.YtfccjaboicpohaaGreatDoor
open Go.RowKit
open Ux (Row StEq Srt Out TView SCap Ent)
theorem TRow.clip {w:World} {g N c:Nat} {l:List ByteArray} (h:TRow w g N c l):TRow w g N N l:=by
 obtain ⟨h1,h2⟩:=h
 subst h1
 refine ⟨rfl,?_⟩
 have:=Ux.Row.clip (by rw [tv_length];exact h2:Row w 0 9 (.slice (some ⟨g,0,none⟩) (tv l).length c) (tv l))
 rwa [tv_length] at this
set_option maxHeartbeats 8000000 in
set_option maxRecDepth 100000 in
theorem csort_ (kd lv:Int) (sh bk:Bool) (tb:Option Addr) (E:List Ent) (K:ByteArray→ByteArray) (ad:Addr) (n c:Nat) (l:List ByteArray) (w:World) (hv:TView w (.slice (some ad) n c) l) (hn:l.length≤40) (hs: ∀x∈l,x.size≤1000000) (hT:Tabs w) (hE:CTab w kd tb E)
 (hsym: ∀g,w.heap.size≤g→∀D,SymAll g n n (cV kd lv sh bk tb) K w D) (hK: ∀a b:ByteArray,a.size≤1000000→b.size≤1000000→cmpC kd lv sh bk tb E a b=cmpStr (K a) (K b)):
 Calls Tryz.prog 28 #[cV kd lv sh bk tb,.slice (some ad) n c] w fun e w'=> ∃g m,e= .returned (.slice (some ⟨g,0,none⟩) n n)∧w.heap.size≤g∧TRow w' g n n m∧StEq K l m∧Srt K m 0 n∧Ux.Touch (fun _=>False) w w':=by
 have hln:l.length=n:=by obtain ⟨_,_,e,_⟩:=hv;cases e;rfl
 have HC:Hid (CmpOk w (cV kd lv sh bk tb) K):=Lib.hid fun a b W T ha hb=>by
  have:=ccmp_ kd lv sh bk tb E a b W (hE.touch T) (hT.touch T) ha hb
  rwa [hK a b ha hb] at this
 obtain ⟨q,hq⟩: ∃q,w.heap.size=q:=⟨_,rfl⟩
 have hr0:(w.alloc (.cells #[.int .i64 kd,.int .i64 lv,.bool sh,.bool bk,.pointer tb] 66)).heap[q]? =some (.cells #[.int .i64 kd,.int .i64 lv,.bool sh,.bool bk,.pointer tb] 66 (0,0)):=by rw [←hq];exact heap_alloc_new w _
 have T0:Ux.Touch (fun _=>False) w (w.alloc (.cells #[.int .i64 kd,.int .i64 lv,.bool sh,.bool bk,.pointer tb] 66)):=(Ux.Touch.refl _ _).alloc _
 have CL:=Lib.hid fun W (T:Ux.Touch (fun _=>False) w W)=>clone_ ad n c l W (hv.touch T) (by omega)
 have HH:=Lib.hid (And.intro hr0 (And.intro T0 (And.intro hln (And.intro hn (And.intro hs hq)))))
 unfold cV
 unfold cV at HC hsym
 have HSY:=Lib.hid hsym
 clear hv hn hs hT hE hK hln hr0 T0 hsym
 go_enter Tryz.func28,Tryz.ntmps28
 go_wp2_with (go_at_call 75;fail)
 refine (CL.out _ HH.out.2.1).mono ?_
 rintro e w1 ⟨g,cc,rfl,hcc,hcm,hg,hrow,T1⟩
 have CC:=Lib.hid fun W=>clip_ (some ⟨g,0,none⟩) n cc W hcc (by unfold maxLen at hcm;omega) ⟨_,rfl⟩
 have H1:=Lib.hid (And.intro (Nat.le_trans HH.out.2.1.size hg) (And.intro hrow.clip (And.intro (HH.out.2.1.trans T1 fun _ _ f=>f) (T1.heap HH.out.1 fun f=>f))))
 clear hcc hcm hg hrow T1
 go_wp2_with (go_at_call 74;fail)
 refine (CC.out _).mono ?_
 rintro e w2 ⟨rfl,hw2⟩
 obtain rfl:w1=w2:=hw2.symm
 have HS:=Lib.hid (ssf_ g n n (.agg #[.int .i64 kd,.int .i64 lv,.bool sh,.bool bk,.pointer tb]) K w l w1 H1.out.2.1 (by have:=HH.out;omega) HC.out H1.out.1 H1.out.2.2.1 HH.out.2.2.2.2.1 (HSY.out g H1.out.1))
 obtain ⟨x0,x1,x2,x3,x4⟩:=CAt.of H1.out.2.2.2
 go_wp2_with (go_at_call 76;fail)
 refine HS.out.mono ?_
 rintro e w3 ⟨rfl,m,hA,hS⟩
 have H3:=Lib.hid (And.intro hA hS)
 clear hA hS x0 x1 x2 x3 x4
 go_wp2
 go_returns
 exact ⟨g,m,rfl,H1.out.1,H3.out.1.row,H3.out.1.eq,H3.out.2,H1.out.2.2.1.trans H3.out.1.touch fun b hb e=>by have:=H1.out.1;omega⟩
theorem insNil (cs:Value) (w:World):Calls Tryz.prog 167 #[.slice none 0 0,.int .i64 0,.int .i64 0,cs] w fun e w'=>e= .returned (.tuple #[])∧w'=w:=by
 go_enter Tryz.func167,Tryz.ntmps167
 go_wp2_with (fail)
 refine wp_loop_rounds 2 ?_
 rw [rounds_succ]
 go_wp2
 go_end0
 exact ⟨rfl,rfl⟩
theorem stableNil (cs:Value) (w:World):Calls Tryz.prog 121 #[.slice none 0 0,.int .i64 0,cs] w fun e w'=>e= .returned (.tuple #[])∧w'=w:=by
 have HI:=Lib.hid insNil
 go_enter Tryz.func121,Tryz.ntmps121
 go_wp2_with (fail)
 refine wp_loop_rounds 2 ?_
 rw [rounds_succ]
 go_wp2_with (go_at_call 167;fail)
 refine (HI.out _ _).mono ?_
 rintro z w1 ⟨rfl,hw⟩
 obtain rfl:w=w1:=hw.symm
 go_wp2_with (fail)
 refine wp_loop_rounds 2 ?_
 rw [rounds_succ]
 go_wp2
 go_end0
 exact ⟨rfl,rfl⟩
theorem ssfNil (cs:Value) (w:World):Calls Tryz.prog 76 #[.slice none 0 0,cs] w fun e w'=>e= .returned (.tuple #[])∧w'=w:=by
 have HI:=Lib.hid stableNil
 go_enter Tryz.func76,Tryz.ntmps76
 go_wp2_with (go_at_call 121;fail)
 refine (HI.out _ _).mono ?_
 rintro z w1 ⟨rfl,hw⟩
 obtain rfl:w=w1:=hw.symm
 go_wp2
 go_end0
 exact ⟨rfl,rfl⟩
theorem cloneNil (w:World):Calls Tryz.prog 75 #[.slice none 0 0] w fun e w'=>e= .returned (.slice none 0 0)∧w'=w:=by
 go_enter Tryz.func75,Tryz.ntmps75
 go_wp2
 go_returns
 exact ⟨rfl,rfl⟩
theorem clipNil (w:World):Calls Tryz.prog 74 #[.slice none 0 0] w fun e w'=>e= .returned (.slice none 0 0)∧w'=w:=by
 go_enter Tryz.func74,Tryz.ntmps74
 go_wp2
 go_returns
 exact ⟨rfl,rfl⟩
set_option maxHeartbeats 4000000 in
set_option maxRecDepth 100000 in
theorem csortNil (kd lv:Int) (sh bk:Bool) (tb:Option Addr) (w:World):Calls Tryz.prog 28 #[cV kd lv sh bk tb,.slice none 0 0] w fun e w'=>e= .returned (.slice none 0 0)∧Ux.Touch (fun _=>False) w w':=by
 unfold cV
 have H1:=Lib.hid cloneNil
 have H2:=Lib.hid clipNil
 have H3:=Lib.hid ssfNil
 obtain ⟨q,hq⟩: ∃q,w.heap.size=q:=⟨_,rfl⟩
 obtain ⟨W,hW⟩: ∃W,w.alloc (.cells #[.int .i64 kd,.int .i64 lv,.bool sh,.bool bk,.pointer tb] 66)=W:=⟨_,rfl⟩
 have hr0:W.heap[q]? =some (.cells #[.int .i64 kd,.int .i64 lv,.bool sh,.bool bk,.pointer tb] 66 (0,0)):=by rw [←hq,←hW];exact heap_alloc_new w _
 have T0:Ux.Touch (fun _=>False) w W:=by rw [←hW];exact (Ux.Touch.refl _ _).alloc _
 obtain ⟨x0,x1,x2,x3,x4⟩:=CAt.of hr0
 have HT:=Lib.hid T0
 clear T0 hr0
 go_enter Tryz.func28,Tryz.ntmps28
 go_wp2_with (go_at_call 75;fail)
 refine (H1.out _).mono ?_
 rintro e w1 ⟨rfl,hw⟩
 obtain rfl:W=w1:=hw.symm
 go_wp2_with (go_at_call 74;fail)
 refine (H2.out _).mono ?_
 rintro e w1 ⟨rfl,hw⟩
 obtain rfl:W=w1:=hw.symm
 go_wp2_with (go_at_call 76;fail)
 refine (H3.out _ _).mono ?_
 rintro e w1 ⟨rfl,hw⟩
 obtain rfl:W=w1:=hw.symm
 go_wp2
 go_returns
 exact ⟨rfl,HT.out⟩
end Go.Proofs.YtfccjaboicpohaaGreatDoor
namespace Go.Proofs.YtfccjaboicpohaaGreatDoor
open Go.RowKit
open Ux (Row StEq Srt TView SCap kLt slt)
def cntB (l:List ByteArray) (x:ByteArray):Nat:=(l.filter fun y=>y.toList==x.toList).length
def sameB (K:ByteArray→ByteArray) (l:List ByteArray) (x:ByteArray):List ByteArray:=l.filter fun y=>decide (K y=K x)
theorem take_filter {l:List ByteArray} {k:Nat} {y:ByteArray} (h:l[k]? =some y) (p:ByteArray→Bool):(l.take (k+1)).filter p=(l.take k).filter p++(if p y=true then [y] else []):=by
 rw [List.take_add_one,h,List.filter_append]
 congr 1
 simp only [Option.toList_some,List.filter_cons,List.filter_nil]
theorem cnt_take {l:List ByteArray} {k:Nat} {y:ByteArray} (h:l[k]? =some y) (x:ByteArray) {B:Bool} (hB:(y.toList==x.toList)=B):cntB (l.take (k+1)) x=cntB (l.take k) x+(if B=true then 1 else 0):=by
 unfold cntB
 rw [take_filter h,List.length_append,hB]
 cases B<;>rfl
theorem same_take {K:ByteArray→ByteArray} {l:List ByteArray} {k:Nat} {y:ByteArray} (h:l[k]? =some y) (x:ByteArray) {B:Bool} (hB:decide (K y=K x)=B):sameB K (l.take (k+1)) x=sameB K (l.take k) x++(if B=true then [y] else []):=by
 unfold sameB
 rw [take_filter h,hB]
theorem cnt_eq {K:ByteArray→ByteArray} {l m:List ByteArray} (h:StEq K l m) (x:ByteArray):cntB l x=cntB m x:=by
 have key: ∀L:List ByteArray,L.filter (fun y=>y.toList==x.toList)=(L.filter fun y=>decide (K y=K x)).filter fun y=>y.toList==x.toList:=fun L=>by
  rw [List.filter_filter]
  congr 1
  funext y
  cases hb:y.toList==x.toList with
  |false=>rfl
  |true=>
   have:=Ux.ba_ext (eq_of_beq hb)
   subst this
   simp
 unfold cntB
 rw [key l,key m,h (K x)]
theorem cmpStr_zero (a b:ByteArray):(cmpStr a b==0)=decide (a=b):=by
 unfold cmpStr
 cases h1:slt a b with
 |true=>
  have:a≠b:=fun e=>by rw [e,Ux.slt_irrefl] at h1;cases h1
  simp [this]
 |false=>
  cases h2:slt b a with
  |true=>
   have:a≠b:=fun e=>by rw [e,Ux.slt_irrefl] at h2;cases h2
   simp [this]
  |false=>
   have:=Ux.slt_conn h1 h2
   simp [this]
structure Two (w:World) (lo:Nat) (u v:Value) (P Q:List ByteArray):Prop where
 p:w.ownsRow 0 9 1 u P.length (tv P)
 q:w.ownsRow 0 9 1 v Q.length (tv Q)
 lp: ∀b,u.ownBlock=some b→lo≤b
 lq: ∀b,v.ownBlock=some b→lo≤b
 ap: ∀b,u.ownBlock=some b→v.ownBlock≠some b
theorem Two.nil (w:World) (lo:Nat):Two w lo (.slice none 0 0) (.slice none 0 0) [] []:=⟨World.ownsRow_nil _ _ _ _,World.ownsRow_nil _ _ _ _,fun b h=>(by cases h),fun b h=>(by cases h),fun b h=>(by cases h)⟩
theorem Two.flip {w:World} {lo:Nat} {u v:Value} {P Q:List ByteArray} (h:Two w lo u v P Q):Two w lo v u Q P:=⟨h.q,h.p,h.lq,h.lp,fun b h1 h2=>h.ap b h2 h1⟩
theorem Two.calm {w w':World} {lo:Nat} {u v:Value} {P Q:List ByteArray} (h:Two w lo u v P Q) (T:Ux.Touch (fun _=>False) w w'):Two w' lo u v P Q:=⟨Ux.own_touch h.p T fun _ _ f=>f,Ux.own_touch h.q T fun _ _ f=>f,h.lp,h.lq,h.ap⟩
theorem Two.app {w:World} {lo:Nat} {u v:Value} {P Q:List ByteArray} (h:Two w lo u v P Q) (hP:P.length≤1000) (hlo:lo≤w.heap.size) (y:ByteArray):
 ∃r w',(∀ty,(Builtin.append_ #[42,42] ty #[u,.slice (some ⟨w.heap.size,0,none⟩) 1 1]).run Tryz.prog (w.alloc (.cells #[.string y] 9))= .ok r w')∧Two w' lo r v (P++ [y]) Q∧Ux.Touch (fun b=>lo≤b) w w'∧∃a c,r= .slice a (P.length+1) c:=by
 obtain ⟨r,w',h1,h2,h3,h4⟩:=Ux.app_new 42 9 1 16 (.string ⟨#[]⟩) Tryz.underlying42 infoS rfl (by omega) u P.length (tv P) w h.p 1 [.string y] rfl (by simp [Value.oneCell']) (by unfold maxLen;omega) (by omega)
 have hvl: ∀b,v.ownBlock=some b→b<w.heap.size:=fun b hb=>by
  rcases h.q.2 with ⟨rfl,_⟩|⟨g,cap,cur,rfl,_,hh,_⟩
  ·cases hb
  ·cases hb;exact Ux.lt_of_heap hh
 refine ⟨r,w',h1,⟨?_,Ux.own_touch h.q h3 fun b hb hu=>h.ap b hu hb,fun b hb=> ?_,h.lq,fun b hb=> ?_⟩,h3.mono fun b _ hb=>h.lp b hb,?_⟩
 ·have e:tv (P++ [y])=tv P++ [.string y]:=by unfold tv;simp
  rw [e,List.length_append]
  exact h2
 ·rcases h4 with e|⟨g,e,hg⟩
  ·exact h.lp b (by rw [←e];exact hb)
  ·rw [e] at hb;cases hb;omega
 ·rcases h4 with e|⟨g,e,hg⟩
  ·exact h.ap b (by rw [←e];exact hb)
  ·rw [e] at hb;cases hb;exact fun k=>by have:=hvl _ k;omega
 ·rcases h2.2 with ⟨_,h0⟩|⟨g,cap,cur,e,_⟩
  ·omega
  ·exact ⟨_,_,e⟩
theorem TRow.view {w:World} {g N c:Nat} {l:List ByteArray} (h:TRow w g N c l) (hN:N≤1000) (hs: ∀x∈l,x.size≤1000000) (hg:g<w.heap.size):TView w (.slice (some ⟨g,0,none⟩) N c) l:=
 ⟨_,c,by rw [h.1],by rw [h.1];unfold maxLen;omega,fun i x hx=>⟨by have:=hs x (List.mem_of_getElem? hx);unfold maxLen;omega,g,0,rfl,hg,by rw [Nat.zero_add];exact h.cell hx⟩⟩
theorem TRow.lt {w:World} {g N c:Nat} {l:List ByteArray} (h:TRow w g N c l):g<w.heap.size:=by
 rcases h.2 with ⟨e,_⟩|⟨g',c',cur,e,_,hh,_⟩
 ·cases e
 ·cases e;exact Ux.lt_of_heap hh
theorem str_self' (S:ByteArray):(S.toList==S.toList)=true:=by simp
theorem row_at {w:World} {pa:Option Addr} {np pc:Nat} {P:List ByteArray} (h:w.ownsRow 0 9 1 (.slice pa np pc) P.length (tv P)) {j:Nat} {y:ByteArray} (hy:P[j]? =some y): ∃g,pa=some ⟨g,0,none⟩∧w.cell? ⟨g,j,none⟩=some (.string y):=by
 obtain ⟨g,e,_,h'⟩:=(Ux.Row.own h (lo:=0) fun _ _=>Nat.zero_le _).1.at (tv_get hy)
 exact ⟨g,e,h'⟩
end Go.Proofs.YtfccjaboicpohaaGreatDoor
