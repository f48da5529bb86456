/- A part of the proof that the statement holds for every input that it names. No other condition. -/
import Derived.Test.YtikmdhhbamggfaaGreatDoorRtail5Z
set_option linter.unusedVariables false
set_option linter.unusedSimpArgs false
namespace Go.Proofs.YtikmdhhbamggfaaGreatDoor
open Go.RowKit
open Ux (Ent rootT)
open Ux.Sign (cp raw signs)
open Ux.Rules (Rul okRul okRuls parseS posB)
def RReadR (w:World) (lo n:Nat) (l:List Nat) (e:Ending):Prop:=match parseS l with
 |(_,some r)=>e= .returned (.tuple #[.agg #[.slice none 0 0],.int .i64 (posB n r:Nat),.int .i64 10])
 |(rs,none)=>if 40<rs.length then e= .returned (.tuple #[.agg #[.slice none 0 0],.int .i64 0,.int .i64 65]) else
  ∃x m c,e= .returned (.tuple #[.agg #[.slice x m c],.int .i64 0,.int .i64 ((applyT (rootT 132) [] rs).1:Nat)])∧((applyT (rootT 132) [] rs).1=0→RRows w (fun b=>lo≤b) (.slice x m c) (applyT (rootT 132) [] rs).2)
set_option maxHeartbeats 16000000 in
set_option maxRecDepth 100000 in
theorem rreadE_ (s:ByteArray) (at' E:Nat) (hE:E=10∨E=65) (w:World)
 (HP: ∀W,Calls Tryz.prog 85 #[.string s] W fun e w'=>e= .returned (.agg #[.slice none 0 0,.int .i64 (at':Int),.int .i64 (E:Int)])∧Ux.Touch (fun _=>False) W w'):
 Calls Tryz.prog 43 #[.string s] w fun e w'=>e= .returned (.tuple #[.agg #[.slice none 0 0],.int .i64 (at':Int),.int .i64 (E:Int)])∧Ux.Touch (fun _=>False) w w':=by
 have k0:((E:Int) !=0)=true:=by
  have:((E:Int)==0)=false:=beq_false_of_ne (by omega)
  show (!((E:Int)==0))=true
  rw [this]
  rfl
 have k9:((E:Int)==0)=false:=beq_false_of_ne (by omega)
 obtain ⟨q,hq⟩: ∃q,w.heap.size=q:=⟨_,rfl⟩
 have hb1:(w.alloc (.cells #[.slice none 0 0] 28)).heap[q]? =some (.cells #[.slice none 0 0] 28 (0,0)):=by rw [←hq];exact heap_alloc_new w _
 have T1:Ux.Touch (fun _=>False) w (w.alloc (.cells #[.slice none 0 0] 28)):=(Ux.Touch.refl _ _).alloc _
 obtain ⟨W1,hW1⟩: ∃W,w.alloc (.cells #[.slice none 0 0] 28)=W:=⟨_,rfl⟩
 rw [hW1] at hb1 T1
 have HPW:=Lib.hid (HP W1)
 have H1:=Lib.hid (And.intro T1 (And.intro hb1 (And.intro hW1 hq)))
 clear HP hE hb1 T1 hW1 hq
 go_enter Tryz.func43,Tryz.ntmps43
 go_wp2_with (go_at_call 85;fail)
 rw [H1.out.2.2.1,H1.out.2.2.2]
 refine HPW.out.mono ?_
 rintro e w2 ⟨rfl,T2⟩
 obtain ⟨q5,hq5⟩: ∃q,w2.heap.size=q:=⟨_,rfl⟩
 have hb5:(w2.alloc (.cells #[.slice none 0 0,.int .i64 (at':Int),.int .i64 (E:Int)] 141)).heap[q5]? =some (.cells #[.slice none 0 0,.int .i64 (at':Int),.int .i64 (E:Int)] 141 (0,0)):=by rw [←hq5];exact heap_alloc_new w2 _
 have T3:Ux.Touch (fun _=>False) w2 (w2.alloc (.cells #[.slice none 0 0,.int .i64 (at':Int),.int .i64 (E:Int)] 141)):=(Ux.Touch.refl _ _).alloc _
 obtain ⟨W3,hW3⟩: ∃W,w2.alloc (.cells #[.slice none 0 0,.int .i64 (at':Int),.int .i64 (E:Int)] 141)=W:=⟨_,rfl⟩
 rw [hW3] at hb5 T3
 have b1:W3.cell? ⟨q5,1,none⟩=some (.int .i64 (at':Int)):=by rw [cell_of_row _ q5 1 _ _ (0,0) hb5];rfl
 have b2:W3.cell? ⟨q5,2,none⟩=some (.int .i64 (E:Int)):=by rw [cell_of_row _ q5 2 _ _ (0,0) hb5];rfl
 have T13:=T2.trans T3 fun _ _ f=>f
 have hbq:=T13.heap H1.out.2.1 (fun f=>f)
 have hqq:q<q5:=by have h1:=Ux.lt_of_heap H1.out.2.1;have h2:=T2.size;omega
 have c0:W3.cell? ⟨q,0,none⟩=some (.slice none 0 0):=by rw [cell_of_row _ q 0 _ _ (0,0) hbq];rfl
 have z0:=Ux.frozen_row hbq 0
 have H3:=Lib.hid (And.intro (H1.out.1.trans T13 fun _ _ f=>f) (And.intro hbq hqq))
 have HW3:=Lib.hid (And.intro hW3 hq5)
 clear hb5 T2 T3 T13 hbq hW3 hq5
 go_upto_region 3 with (fail)
 rw [HW3.out.1,HW3.out.2]
 have T5:Ux.Touch (fun b=>b=q) W3 (W3.drew.setCell ⟨q,0,none⟩ (.slice none 0 0)):=((Ux.Touch.refl (fun b=>b=q) W3).drew).setCell (p:=⟨q,0,none⟩) (fun _=>rfl) _
 have HK:=Lib.hid (And.intro (T5.cell b1 (fun h=>by have h:q5=q:=h;have:=H3.out.2.2;omega)) (T5.cell b2 (fun h=>by have h:q5=q:=h;have:=H3.out.2.2;omega)))
 refine Ux.wpr (fun _ w'=>w'.cell? ⟨q5,1,none⟩=some (.int .i64 (at':Int))∧w'.cell? ⟨q5,2,none⟩=some (.int .i64 (E:Int))) (.q [0,1,3] (.h true [2,4] (.e 5 false true (.q [6] (.line [7]))))) ?_;repeat ((with_reducible refine Ux.qg ?_);refine Ux.qu ?_)
 go_wp2_with (fail)
 refine ⟨HK.out,?_⟩
 repeat ((with_reducible refine Ux.qg ?_);refine Ux.qu ?_)
 go_wp2
 have hx:(W3.drew.setCell ⟨q,0,none⟩ (.slice none 0 0)).heap[q]? =some (.cells #[.slice none 0 0] 28 (0,0)):=Ux.setCell_row (w:=W3.drew) H3.out.2.1 0 (.slice none 0 0)
 have e0:=cell_of_row _ q 0 _ _ (0,0) hx
 have TT:Ux.Touch (fun _=>False) w (W3.drew.setCell ⟨q,0,none⟩ (.slice none 0 0)):=H3.out.1.trans (R:=fun _=>False) T5 fun b hb e=>by have:=H1.out.2.2.2;omega
 have e0:(W3.setCell ⟨q,0,none⟩ (.slice none 0 0)).cell? ⟨q,0,none⟩=some (.slice none 0 0):=e0
 have TT:Ux.Touch (fun _=>False) w (W3.setCell ⟨q,0,none⟩ (.slice none 0 0)).drew:=TT
 refine bodyPost_ret (by simp [results,Tryz.results43,go_sem,e0];try rfl) rfl ?_
 exact ⟨rfl,TT⟩
set_option maxHeartbeats 16000000 in
set_option maxRecDepth 100000 in
theorem rread_ (s:ByteArray) (w:World) (hs:s.size≤1000000):Calls Tryz.prog 43 #[.string s] w fun e w'=>RReadR w' w.heap.size s.size (signs s.data.toList) e∧Ux.Touch (fun _=>False) w w':=by
 have HP:=fun W=>rparse_ s W hs
 obtain ⟨l,hl⟩: ∃l,signs s.data.toList=l:=⟨_,rfl⟩
 have hok:=Ux.Rules.parseS_ok (P:=fun c=>cp c∨raw c) (l:=l) (fun c hc=>Ux.Sign.good_all (Ux.Sign.good_signs s.data.toList) c (by rw [hl];exact hc))
 rw [hl] at HP⊢
 unfold RReadR
 obtain ⟨⟨rs,o⟩,hp⟩: ∃p,parseS l=p:=⟨_,rfl⟩
 rw [hp] at hok⊢
 simp only [hp] at HP
 cases o with
 |some r=>exact rreadE_ s (posB s.size r) 10 (.inl rfl) w fun W=>HP W
 |none=>
  dsimp only at hok⊢
  by_cases h40:40<rs.length
  ·simp only [if_pos h40]
   refine rreadE_ s 0 65 (.inr rfl) w fun W=>(HP W).mono fun e w' ⟨h,t⟩=> ?_
   unfold RParseR at h
   dsimp only at h
   rw [if_pos h40] at h
   exact ⟨h,t⟩
  ·simp only [if_neg h40]
   have HP2:Hid (∀W,Calls Tryz.prog 85 #[.string s] W fun e w'=>(∃a c,e= .returned (.agg #[.slice a rs.length c,.int .i64 0,.int .i64 0])∧RulesAt w' W.heap.size (.slice a rs.length c) rs)∧Ux.Touch (fun _=>False) W w'):=Lib.hid fun W=>(HP W).mono fun e w' ⟨h,t⟩=>by
    unfold RParseR at h
    dsimp only at h
    rw [if_neg h40] at h
    obtain ⟨v,rfl,hv⟩:=h
    have hv':=hv
    obtain ⟨a,c,rfl,_⟩:=hv
    exact ⟨⟨a,c,rfl,hv'⟩,t⟩
   obtain ⟨n,hn⟩: ∃n,rs.length=n:=⟨_,rfl⟩
   rw [hn] at HP2
   obtain ⟨RES,hRES⟩: ∃r,applyT (rootT 132) [] rs=r:=⟨_,rfl⟩
   rw [hRES]
   obtain ⟨C,hC⟩: ∃c,RES.1=c:=⟨_,rfl⟩
   rw [hC]
   obtain ⟨n6,hn6⟩: ∃n6,(rootT 132).length=n6:=⟨_,rfl⟩
   have HO:=Lib.hid (And.intro hok (And.intro h40 (And.intro hRES (And.intro hC (And.intro hn hn6)))))
   obtain ⟨q,hq⟩: ∃q,w.heap.size=q:=⟨_,rfl⟩
   have hb1:(w.alloc (.cells #[.slice none 0 0] 28)).heap[q]? =some (.cells #[.slice none 0 0] 28 (0,0)):=by rw [←hq];exact heap_alloc_new w _
   have T1:Ux.Touch (fun _=>False) w (w.alloc (.cells #[.slice none 0 0] 28)):=(Ux.Touch.refl _ _).alloc _
   have hs1:(w.alloc (.cells #[.slice none 0 0] 28)).heap.size=q+1:=by rw [World.size_alloc,hq]
   obtain ⟨W1,hW1⟩: ∃W,w.alloc (.cells #[.slice none 0 0] 28)=W:=⟨_,rfl⟩
   rw [hW1] at hb1 T1 hs1
   have H1:=Lib.hid (And.intro T1 (And.intro hb1 (And.intro hW1 (And.intro hq hs1))))
   clear HP hok h40 hRES hC hp hb1 T1 hW1 hq hn hn6 hl hs hs1
   go_enter Tryz.func43,Tryz.ntmps43
   go_wp2_with (go_at_call 85;fail)
   rw [H1.out.2.2.1,H1.out.2.2.2.1]
   refine (HP2.out W1).mono ?_
   rintro e w2 ⟨⟨av,cv,rfl,hv⟩,T2⟩
   obtain ⟨q5,hq5⟩: ∃q,w2.heap.size=q:=⟨_,rfl⟩
   have hb5:(w2.alloc (.cells #[.slice av n cv,.int .i64 0,.int .i64 0] 141)).heap[q5]? =some (.cells #[.slice av n cv,.int .i64 0,.int .i64 0] 141 (0,0)):=by rw [←hq5];exact heap_alloc_new w2 _
   have T3:Ux.Touch (fun _=>False) w2 (w2.alloc (.cells #[.slice av n cv,.int .i64 0,.int .i64 0] 141)):=(Ux.Touch.refl _ _).alloc _
   obtain ⟨W3,hW3⟩: ∃W,w2.alloc (.cells #[.slice av n cv,.int .i64 0,.int .i64 0] 141)=W:=⟨_,rfl⟩
   rw [hW3] at hb5 T3
   have b0:W3.cell? ⟨q5,0,none⟩=some (.slice av n cv):=by rw [cell_of_row _ q5 0 _ _ (0,0) hb5];rfl
   have b2:W3.cell? ⟨q5,2,none⟩=some (.int .i64 0):=by rw [cell_of_row _ q5 2 _ _ (0,0) hb5];rfl
   have HV:Hid (∀W,Ux.Touch (fun _=>False) W3 W→RulesAt W 0 (.slice av n cv) rs):=Lib.hid fun W t=>by
    obtain ⟨a,c,e,h⟩:=(hv.touch T3).touch t
    refine ⟨a,c,e,fun i x hx=> ?_⟩
    obtain ⟨g,v1,v2,h1,h2,h3,h4,h5,h6⟩:=h i x hx
    exact ⟨g,v1,v2,h1,h2,h3,h4,Ux.Row.mono h5 (Nat.zero_le _),Ux.Row.mono h6 (Nat.zero_le _)⟩
   have HAP:Hid (∀(W:World) (a6:Option Addr) (c6:Nat) (A:Nat→Prop),Ux.Touch (fun _=>False) W3 W→RRows W A (.slice a6 n6 c6) (rootT 132)→Calls Tryz.prog 50 #[.agg #[.slice a6 n6 c6],.slice av n cv] W fun e w'=> ∃x m c,e= .returned (.tuple #[.agg #[.slice x m c],.int .i64 (C:Int)])∧(C=0→RRows w' (fun b=>A b∨W.heap.size≤b) (.slice x m c) RES.2)∧Ux.Touch (fun _=>False) W w'):=Lib.hid fun W a6 c6 A t hR=>by
    have h:=rapply_ (.slice a6 n6 c6) (.slice av n cv) (rootT 132) rs A W hR InvT.root (HV.out W t) HO.out.1 (by have:=HO.out.2.1;omega)
    rw [HO.out.2.2.1] at h
    refine h.mono ?_
    rintro e w' ⟨h|⟨h0,x,m,c,rfl,hr⟩,t'⟩
    ·rw [HO.out.2.2.2.1] at h
     exact ⟨none,0,0,h.2,fun h0=>absurd h0 h.1,t'⟩
    ·have hc0:C=0:=by rw [←HO.out.2.2.2.1];exact h0
     subst hc0
     exact ⟨x,m,c,rfl,fun _=>hr,t'⟩
   have T13:=T2.trans T3 fun _ _ f=>f
   have H3:=Lib.hid (And.intro (H1.out.1.trans T13 fun _ _ f=>f) (And.intro (T13.heap H1.out.2.1 (fun f=>f)) (show q+1≤W3.heap.size by have h1:=T13.size;have h2:=H1.out.2.2.2.2;omega)))
   have HC:=Lib.hid fun W (t:Ux.Touch (fun _=>False) W3 W)=>t.cell b0 (fun f=>f)
   have HW3:=Lib.hid (And.intro hW3 hq5)
   clear hb5 T2 T3 T13 hW3 hq5 hv
   go_upto_region 4 with (fail)
   rw [HW3.out.1,HW3.out.2]
   go_cut [6,7] (fun s6 s7 wx=> ∃(X13:Nat) (x3:Option Addr) (n3 c3:Nat),s6= .pointer (some ⟨X13,0,none⟩)∧s7= .int .i64 (C:Int)∧wx.cell? ⟨X13,0,none⟩=some (.slice x3 n3 c3)∧Hid ((C=0→RRows wx (fun b=>q+1≤b) (.slice x3 n3 c3) RES.2)∧Ux.Touch (fun _=>False) W3 wx))
   case first=>
    clear b2
    obtain ⟨wk,hwk⟩: ∃W,W3.drew=W:=⟨_,rfl⟩
    have Tk:=Lib.hid (show Ux.Touch (fun _=>False) W3 wk by rw [←hwk];exact (Ux.Touch.refl _ _).drew)
    refine Ux.wpr (fun _ w'=>w'.cell? ⟨q5,0,none⟩=some (.slice av n cv)) (.q [1] (.h false [2] (.br 0 (.br 3 (.q [4,5,6] (.e 7 true false (.e 8 false false (.line [9])))) 7 (.e 3 true true (.q [4,5,6] (.e 8 false false (.line [9]))))) 7 (.e 0 true true (.e 3 true true (.q [4,5,6] (.e 8 false false (.line [9])))))))) ?_;repeat ((with_reducible refine Ux.qg ?_);refine Ux.qu ?_)
    refine ⟨?_,?_⟩
    ·go_wp2_with (go_at_call 49;fail)
     refine (rroot_ wk).mono ?_
     rintro e wn ⟨u6,rfl,hR6,tn⟩
     have HN:=Lib.hid tn
     have hR6':=hR6.mono (A':=fun b=>wk.heap.size≤b∧W3.heap.size≤b) fun g h1 h2=>⟨by omega,by have:=Tk.out.size;omega⟩
     obtain ⟨_,a6,c6,hu6,_⟩:=hR6
     rw [HO.out.2.2.2.2.2] at hu6
     subst hu6
     have HR0:=Lib.hid hR6'
     clear tn hR6'
     go_wp2_with (fail)
     first
      |(have HR:=Lib.hid (HR0.out.mono (A':=fun b=>W3.heap.size≤b∧b≠X13) fun g h1 h2=>⟨h2.2,by have:=Ux.lt_of_heap HZ.out;omega⟩)
        have HZ:=Lib.hid (HN.out.heap HZ.out (fun f=>f))
        have Tk:=Lib.hid (Tk.out.trans HN.out fun _ _ f=>f)
        clear HN HR0
        obtain ⟨wk,rfl⟩: ∃W,W=wn:=⟨_,rfl⟩)
      |(have HR:=Lib.hid (HR0.out.mono (A':=fun b=>W3.heap.size≤b) fun g h1 h2=>h2.2)
        have Tk:=Lib.hid (Tk.out.trans HN.out fun _ _ f=>f)
        clear HN HR0
        obtain ⟨wk,rfl⟩: ∃W,W=wn:=⟨_,rfl⟩)
     first|refine ⟨⟨HC.out _ Tk.out,HC.out _ Tk.out⟩,?_⟩|refine ⟨HC.out _ Tk.out,?_⟩
     refine ⟨?_,?_⟩
     ·go_wp2_with (go_at_call 50;fail)
      refine (HAP.out wk a6 c6 _ Tk.out HR.out).mono ?_
      rintro e wn ⟨x3,n3,c3,rfl,hF,tn⟩
      have HN:=Lib.hid tn
      have HF0:=Lib.hid hF
      clear hF tn
      go_wp2_with (fail)
      first
       |(have HF:=Lib.hid fun h0=>(HF0.out h0).mono (A':=fun b=>W3.heap.size≤b∧b≠X13) fun g h1 h2=>(by
          rcases h2 with h2|h2
          ·exact h2
          ·exact ⟨by have:=Tk.out.size;omega,by have:=Ux.lt_of_heap HZ.out;omega⟩)
         have HZ:=Lib.hid (HN.out.heap HZ.out (fun f=>f))
         have Tk:=Lib.hid (Tk.out.trans HN.out fun _ _ f=>f)
         clear HN HF0 HR
         obtain ⟨wk,rfl⟩: ∃W,W=wn:=⟨_,rfl⟩)
       |(have HF:=Lib.hid fun h0=>(HF0.out h0).mono (A':=fun b=>W3.heap.size≤b) fun g h1 h2=>(by
          rcases h2 with h2|h2
          ·exact h2
          ·have:=Tk.out.size
           omega)
         have Tk:=Lib.hid (Tk.out.trans HN.out fun _ _ f=>f)
         clear HN HF0 HR
         obtain ⟨wk,rfl⟩: ∃W,W=wn:=⟨_,rfl⟩)
      first|refine ⟨⟨HC.out _ Tk.out,HC.out _ Tk.out⟩,?_⟩|refine ⟨HC.out _ Tk.out,?_⟩
      repeat ((with_reducible refine Ux.qg ?_);refine Ux.qu ?_)
      obtain ⟨X13,hX13⟩: ∃X,wk.heap.size=X:=⟨_,rfl⟩
      obtain ⟨wn,hwn⟩: ∃W,wk.alloc (.cells #[.slice none 0 0] 28)=W:=⟨_,rfl⟩
      have HN:=Lib.hid (show Ux.Touch (fun _=>False) wk wn by rw [←hwn];exact (Ux.Touch.refl _ _).alloc _)
      have HZ:Hid (wn.heap[X13]? =some (.cells #[.slice none 0 0] 28 (0,0))):=Lib.hid (by rw [←hwn,←hX13];exact heap_alloc_new wk _)
      have HXL:=Lib.hid (show W3.heap.size≤X13 by rw [←hX13];exact Tk.out.size)
      have HXE:=Lib.hid hX13
      go_wp2_with (fail)
      try (have HR:=Lib.hid ((HR.out.mono (A':=fun b=>W3.heap.size≤b∧b≠X13) fun g h1 h2=>⟨h2,by have:=HXE.out;omega⟩).touch0 HN.out))
      try (have HF:=Lib.hid fun h0=>((HF.out h0).mono (A':=fun b=>W3.heap.size≤b∧b≠X13) fun g h1 h2=>⟨h2,by have:=HXE.out;omega⟩).touch0 HN.out)
      clear hwn hX13
      have Tk:=Lib.hid (Tk.out.trans HN.out fun _ _ f=>f)
      clear HN
      obtain ⟨wk,rfl⟩: ∃W,W=wn:=⟨_,rfl⟩
      refine ⟨HC.out _ Tk.out,?_⟩
      have yz:wk.cell? ⟨X13,0,none⟩=some (.slice none 0 0):=by rw [cell_of_row _ X13 0 _ _ (0,0) HZ.out];rfl
      have zz:=Ux.frozen_row HZ.out 0
      go_wp2_with (fail)
      go_wp2_with (fail)
      go_meet
      have ts:Ux.Touch (fun b=>b=X13) wk (wk.setCell ⟨X13,0,none⟩ (.slice x3 n3 c3)):=(Ux.Touch.refl (fun b=>b=X13) wk).setCell (p:=⟨X13,0,none⟩) (fun _=>rfl) _
      exact ⟨X13,x3,n3,c3,rfl,rfl,by rw [cell_of_row _ X13 0 _ _ (0,0) (Ux.setCell_row HZ.out 0 _)];rfl,Lib.hid ⟨fun h0=>((HF.out h0).touchB ts fun g _ h e=>h.2 e).mono fun g _ h=>by have h1:=h.1;have h2:=H3.out.2.2;omega,Tk.out.trans (R:=fun _=>False) ts fun b hb e=>by have:=HXL.out;omega⟩⟩
     ·obtain ⟨X13,hX13⟩: ∃X,wk.heap.size=X:=⟨_,rfl⟩
      obtain ⟨wn,hwn⟩: ∃W,wk.alloc (.cells #[.slice none 0 0] 28)=W:=⟨_,rfl⟩
      have HN:=Lib.hid (show Ux.Touch (fun _=>False) wk wn by rw [←hwn];exact (Ux.Touch.refl _ _).alloc _)
      have HZ:Hid (wn.heap[X13]? =some (.cells #[.slice none 0 0] 28 (0,0))):=Lib.hid (by rw [←hwn,←hX13];exact heap_alloc_new wk _)
      have HXL:=Lib.hid (show W3.heap.size≤X13 by rw [←hX13];exact Tk.out.size)
      have HXE:=Lib.hid hX13
      go_wp2_with (fail)
      try (have HR:=Lib.hid ((HR.out.mono (A':=fun b=>W3.heap.size≤b∧b≠X13) fun g h1 h2=>⟨h2,by have:=HXE.out;omega⟩).touch0 HN.out))
      try (have HF:=Lib.hid fun h0=>((HF.out h0).mono (A':=fun b=>W3.heap.size≤b∧b≠X13) fun g h1 h2=>⟨h2,by have:=HXE.out;omega⟩).touch0 HN.out)
      clear hwn hX13
      have Tk:=Lib.hid (Tk.out.trans HN.out fun _ _ f=>f)
      clear HN
      obtain ⟨wk,rfl⟩: ∃W,W=wn:=⟨_,rfl⟩
      first|refine ⟨⟨HC.out _ Tk.out,HC.out _ Tk.out⟩,?_⟩|refine ⟨HC.out _ Tk.out,?_⟩
      go_wp2_with (go_at_call 50;fail)
      refine (HAP.out wk a6 c6 _ Tk.out HR.out).mono ?_
      rintro e wn ⟨x3,n3,c3,rfl,hF,tn⟩
      have HN:=Lib.hid tn
      have HF0:=Lib.hid hF
      clear hF tn
      go_wp2_with (fail)
      first
       |(have HF:=Lib.hid fun h0=>(HF0.out h0).mono (A':=fun b=>W3.heap.size≤b∧b≠X13) fun g h1 h2=>(by
          rcases h2 with h2|h2
          ·exact h2
          ·exact ⟨by have:=Tk.out.size;omega,by have:=Ux.lt_of_heap HZ.out;omega⟩)
         have HZ:=Lib.hid (HN.out.heap HZ.out (fun f=>f))
         have Tk:=Lib.hid (Tk.out.trans HN.out fun _ _ f=>f)
         clear HN HF0 HR
         obtain ⟨wk,rfl⟩: ∃W,W=wn:=⟨_,rfl⟩)
       |(have HF:=Lib.hid fun h0=>(HF0.out h0).mono (A':=fun b=>W3.heap.size≤b) fun g h1 h2=>(by
          rcases h2 with h2|h2
          ·exact h2
          ·have:=Tk.out.size
           omega)
         have Tk:=Lib.hid (Tk.out.trans HN.out fun _ _ f=>f)
         clear HN HF0 HR
         obtain ⟨wk,rfl⟩: ∃W,W=wn:=⟨_,rfl⟩)
      first|refine ⟨⟨HC.out _ Tk.out,HC.out _ Tk.out⟩,?_⟩|refine ⟨HC.out _ Tk.out,?_⟩
      repeat ((with_reducible refine Ux.qg ?_);refine Ux.qu ?_)
      have yz:wk.cell? ⟨X13,0,none⟩=some (.slice none 0 0):=by rw [cell_of_row _ X13 0 _ _ (0,0) HZ.out];rfl
      have zz:=Ux.frozen_row HZ.out 0
      go_wp2_with (fail)
      go_wp2_with (fail)
      go_meet
      have ts:Ux.Touch (fun b=>b=X13) wk (wk.setCell ⟨X13,0,none⟩ (.slice x3 n3 c3)):=(Ux.Touch.refl (fun b=>b=X13) wk).setCell (p:=⟨X13,0,none⟩) (fun _=>rfl) _
      exact ⟨X13,x3,n3,c3,rfl,rfl,by rw [cell_of_row _ X13 0 _ _ (0,0) (Ux.setCell_row HZ.out 0 _)];rfl,Lib.hid ⟨fun h0=>((HF.out h0).touchB ts fun g _ h e=>h.2 e).mono fun g _ h=>by have h1:=h.1;have h2:=H3.out.2.2;omega,Tk.out.trans (R:=fun _=>False) ts fun b hb e=>by have:=HXL.out;omega⟩⟩
    ·obtain ⟨X13,hX13⟩: ∃X,wk.heap.size=X:=⟨_,rfl⟩
     obtain ⟨wn,hwn⟩: ∃W,wk.alloc (.cells #[.slice none 0 0] 28)=W:=⟨_,rfl⟩
     have HN:=Lib.hid (show Ux.Touch (fun _=>False) wk wn by rw [←hwn];exact (Ux.Touch.refl _ _).alloc _)
     have HZ:Hid (wn.heap[X13]? =some (.cells #[.slice none 0 0] 28 (0,0))):=Lib.hid (by rw [←hwn,←hX13];exact heap_alloc_new wk _)
     have HXL:=Lib.hid (show W3.heap.size≤X13 by rw [←hX13];exact Tk.out.size)
     have HXE:=Lib.hid hX13
     go_wp2_with (fail)
     try (have HR:=Lib.hid ((HR.out.mono (A':=fun b=>W3.heap.size≤b∧b≠X13) fun g h1 h2=>⟨h2,by have:=HXE.out;omega⟩).touch0 HN.out))
     try (have HF:=Lib.hid fun h0=>((HF.out h0).mono (A':=fun b=>W3.heap.size≤b∧b≠X13) fun g h1 h2=>⟨h2,by have:=HXE.out;omega⟩).touch0 HN.out)
     clear hwn hX13
     have Tk:=Lib.hid (Tk.out.trans HN.out fun _ _ f=>f)
     clear HN
     obtain ⟨wk,rfl⟩: ∃W,W=wn:=⟨_,rfl⟩
     first|refine ⟨⟨HC.out _ Tk.out,HC.out _ Tk.out⟩,?_⟩|refine ⟨HC.out _ Tk.out,?_⟩
     go_wp2_with (go_at_call 49;fail)
     refine (rroot_ wk).mono ?_
     rintro e wn ⟨u6,rfl,hR6,tn⟩
     have HN:=Lib.hid tn
     have hR6':=hR6.mono (A':=fun b=>wk.heap.size≤b∧W3.heap.size≤b) fun g h1 h2=>⟨by omega,by have:=Tk.out.size;omega⟩
     obtain ⟨_,a6,c6,hu6,_⟩:=hR6
     rw [HO.out.2.2.2.2.2] at hu6
     subst hu6
     have HR0:=Lib.hid hR6'
     clear tn hR6'
     go_wp2_with (fail)
     first
      |(have HR:=Lib.hid (HR0.out.mono (A':=fun b=>W3.heap.size≤b∧b≠X13) fun g h1 h2=>⟨h2.2,by have:=Ux.lt_of_heap HZ.out;omega⟩)
        have HZ:=Lib.hid (HN.out.heap HZ.out (fun f=>f))
        have Tk:=Lib.hid (Tk.out.trans HN.out fun _ _ f=>f)
        clear HN HR0
        obtain ⟨wk,rfl⟩: ∃W,W=wn:=⟨_,rfl⟩)
      |(have HR:=Lib.hid (HR0.out.mono (A':=fun b=>W3.heap.size≤b) fun g h1 h2=>h2.2)
        have Tk:=Lib.hid (Tk.out.trans HN.out fun _ _ f=>f)
        clear HN HR0
        obtain ⟨wk,rfl⟩: ∃W,W=wn:=⟨_,rfl⟩)
     first|refine ⟨⟨HC.out _ Tk.out,HC.out _ Tk.out⟩,?_⟩|refine ⟨HC.out _ Tk.out,?_⟩
     go_wp2_with (go_at_call 50;fail)
     refine (HAP.out wk a6 c6 _ Tk.out HR.out).mono ?_
     rintro e wn ⟨x3,n3,c3,rfl,hF,tn⟩
     have HN:=Lib.hid tn
     have HF0:=Lib.hid hF
     clear hF tn
     go_wp2_with (fail)
     first
      |(have HF:=Lib.hid fun h0=>(HF0.out h0).mono (A':=fun b=>W3.heap.size≤b∧b≠X13) fun g h1 h2=>(by
         rcases h2 with h2|h2
         ·exact h2
         ·exact ⟨by have:=Tk.out.size;omega,by have:=Ux.lt_of_heap HZ.out;omega⟩)
        have HZ:=Lib.hid (HN.out.heap HZ.out (fun f=>f))
        have Tk:=Lib.hid (Tk.out.trans HN.out fun _ _ f=>f)
        clear HN HF0 HR
        obtain ⟨wk,rfl⟩: ∃W,W=wn:=⟨_,rfl⟩)
      |(have HF:=Lib.hid fun h0=>(HF0.out h0).mono (A':=fun b=>W3.heap.size≤b) fun g h1 h2=>(by
         rcases h2 with h2|h2
         ·exact h2
         ·have:=Tk.out.size
          omega)
        have Tk:=Lib.hid (Tk.out.trans HN.out fun _ _ f=>f)
        clear HN HF0 HR
        obtain ⟨wk,rfl⟩: ∃W,W=wn:=⟨_,rfl⟩)
     first|refine ⟨⟨HC.out _ Tk.out,HC.out _ Tk.out⟩,?_⟩|refine ⟨HC.out _ Tk.out,?_⟩
     repeat ((with_reducible refine Ux.qg ?_);refine Ux.qu ?_)
     have yz:wk.cell? ⟨X13,0,none⟩=some (.slice none 0 0):=by rw [cell_of_row _ X13 0 _ _ (0,0) HZ.out];rfl
     have zz:=Ux.frozen_row HZ.out 0
     go_wp2_with (fail)
     go_wp2_with (fail)
     go_meet
     have ts:Ux.Touch (fun b=>b=X13) wk (wk.setCell ⟨X13,0,none⟩ (.slice x3 n3 c3)):=(Ux.Touch.refl (fun b=>b=X13) wk).setCell (p:=⟨X13,0,none⟩) (fun _=>rfl) _
     exact ⟨X13,x3,n3,c3,rfl,rfl,by rw [cell_of_row _ X13 0 _ _ (0,0) (Ux.setCell_row HZ.out 0 _)];rfl,Lib.hid ⟨fun h0=>((HF.out h0).touchB ts fun g _ h e=>h.2 e).mono fun g _ h=>by have h1:=h.1;have h2:=H3.out.2.2;omega,Tk.out.trans (R:=fun _=>False) ts fun b hb e=>by have:=HXL.out;omega⟩⟩
   obtain ⟨X13,x3,n3,c3,rfl,rfl,hc6,HK⟩:=hcut
   have Tc:=HK.out.2
   have hbq:=Tc.heap H3.out.2.1 (fun f=>f)
   have HQ:=Lib.hid hbq
   have d0:wc.cell? ⟨q,0,none⟩=some (.slice none 0 0):=by rw [cell_of_row _ q 0 _ _ (0,0) hbq];rfl
   have z0:=Ux.frozen_row hbq 0
   clear hbq Tc b2 b0
   go_wp2
   have hx:=Ux.setCell_row HQ.out 0 (.slice x3 n3 c3)
   have e0:=cell_of_row _ q 0 _ _ (0,0) hx
   have T5:Ux.Touch (fun b=>b=q) wc (wc.setCell ⟨q,0,none⟩ (.slice x3 n3 c3)):=(Ux.Touch.refl (fun b=>b=q) wc).setCell (p:=⟨q,0,none⟩) (fun _=>rfl) _
   have TT:Ux.Touch (fun _=>False) w (wc.setCell ⟨q,0,none⟩ (.slice x3 n3 c3)):=(H3.out.1.trans HK.out.2 fun _ _ f=>f).trans (R:=fun _=>False) T5 fun b hb h=>by have:=H1.out.2.2.2.1;omega
   have hFIN:C=0→RRows (wc.setCell ⟨q,0,none⟩ (.slice x3 n3 c3)) (fun b=>w.heap.size≤b) (.slice x3 n3 c3) RES.2:=fun h0=>((HK.out.1 h0).touchB T5 fun g _ h e=>by omega).mono fun g h1 h2=>by have:=H1.out.2.2.2.1;omega
   generalize wc.setCell ⟨q,0,none⟩ (.slice x3 n3 c3)=W5 at e0 TT hFIN⊢
   simp at e0
   refine bodyPost_ret (by simp [results,Tryz.results43,go_sem,e0];try rfl) rfl ?_
   exact ⟨⟨x3,n3,c3,rfl,hFIN⟩,TT⟩
end Go.Proofs.YtikmdhhbamggfaaGreatDoor
