/- A part of the proof that the statement holds for every input that it names. No other condition. -/
import Derived.Test.YtikmdhhbamggfaaGreatDoorStrmAZ
set_option linter.unusedVariables false
set_option linter.unusedSimpArgs false
namespace Go.Proofs.YtikmdhhbamggfaaGreatDoor
open Go.RowKit
open Ux (Row iv sv bv ev Ent keyL Grow)
attribute [local go_sem] Oper.semAt_some
end Go.Proofs.YtikmdhhbamggfaaGreatDoor
namespace Go.Proofs.YtikmdhhbamggfaaGreatDoor
open Go.RowKit
open Ux (Row iv sv bv ev Ent keyL Grow cmpB)
attribute [local go_sem] Oper.semAt_some
end Go.Proofs.YtikmdhhbamggfaaGreatDoor
namespace Go.Proofs.YtikmdhhbamggfaaGreatDoor
open Go.RowKit
open Ux (Row iv sv bv ev Ent keyL Grow)
attribute [local go_sem] Oper.semAt_some
set_option maxHeartbeats 8000000 in
set_option maxRecDepth 100000 in
theorem text9_ (kd lv:Int) (sh bk:Bool) (tb:Option Addr) (E:List Ent) (s:ByteArray) (w:World) (b1 b2:Nat) (hst:StrAt w b1 b2 kd lv sh bk tb s) (hs:s.size≤1000000) (hT:Tabs w) (hE:CTab w kd tb E) (hkl:(keyP kd lv sh bk tb E s).size≤1000000000):
 Calls Tryz.prog 28 #[strV b1 b2] w fun e w'=>e= .returned (.string (keyP kd lv sh bk tb E s))∧StrAt w' b1 b2 kd lv sh bk tb s∧Ux.Touch (fun b=>b=b2) w w':=by
 obtain ⟨want,hw⟩: ∃want,(keyP kd lv sh bk tb E s).data.toList=want:=⟨_,rfl⟩
 have hwl:want.length≤1000000000:=by rw [←hw];exact hkl
 have HS:=Lib.hid (And.intro hs (And.intro hT (And.intro hE (And.intro hw hwl))))
 clear hs hT hE hkl hwl
 have l1:b1<w.heap.size:=Ux.lt_of_heap hst.c
 have l2:b2<w.heap.size:=by obtain ⟨x,h,_⟩:=hst.b;exact Ux.lt_of_heap h
 have hn12:b1≠b2:=fun e=>by
  obtain ⟨x,h,_⟩:=hst.b
  rw [←e,hst.c] at h
  cases h
 obtain ⟨B,hB⟩: ∃B,w.heap.size=B:=⟨_,rfl⟩
 rw [hB] at l1 l2
 have T4:Ux.Touch (fun _=>False) w (w.alloc (.cells #[.slice none 0 0] 108)):=(Ux.Touch.refl _ w).alloc _
 have ht4:(w.alloc (.cells #[.slice none 0 0] 108)).heap[B]? =some (.cells #[.slice none 0 0] 108 (0,0)):=by rw [←hB];exact heap_alloc_new w _
 have hs4:(w.alloc (.cells #[.slice none 0 0] 108)).heap.size=B+1:=by rw [World.size_alloc,hB]
 obtain ⟨w4,hw4⟩: ∃w4,w.alloc (.cells #[.slice none 0 0] 108)=w4:=⟨_,rfl⟩
 rw [hw4] at T4 ht4 hs4
 have hst4:StrAt w4 b1 b2 kd lv sh bk tb s:=⟨T4.heap hst.c (fun f=>f),let ⟨x,h1,h2⟩:=hst.b;⟨x,T4.heap h1 (fun f=>f),h2⟩⟩
 have H4:=Lib.hid (And.intro hs4 (And.intro T4 (And.intro ht4 (And.intro hst4 hB))))
 have HW4:=Lib.hid hw4
 clear hs4 T4 ht4 hst4 hst
 unfold strV
 refine calls_marks Tryz.func28 rfl ?_
 simp only [Tryz.ntmps28,List.size_toArray,List.length_cons,List.length_nil,Nat.reduceAdd,Nat.reduceSub,Array.replicate_succ,Array.replicate_zero,List.push_toArray,List.append_toArray,List.nil_append,List.cons_append]
 go_wp2_with (fail)
 clear hw4 hB
 refine' Ux.wp_rangeR (gf:=68) (enc:=encB) (want:=want) rfl Tryz.func68 rfl rfl (fun _=>rfl) (CCB B) (fun b=>b=b2) (ItS b2 kd s) (fun _ _ h=>h.1) CCB.cells CCB.mono ?it ?hit (KeyI B b2 (w4.heap.size+2) kd s w4) (fun _ _ _=>False) ?hI ?hIx ?hI2 ?hIx2 ?h0 _ ?assign ?body ?done ?stop
 case it=>intro b hb;have:=H4.out.1;omega
 case hit=>
  intro l C W1 J Jx hl hC hs1 T1 hR hJ
  have h:=iter_ l kd lv sh bk tb E s HS.out.1 C J Jx W1 b1 b2 (HS.out.2.1.touch (H4.out.2.1.trans T1 fun _ _ f=>f)) (HS.out.2.2.1.touch (H4.out.2.1.trans T1 fun _ _ f=>f)) (by rw [HS.out.2.2.2.1];exact hR) ?_ ⟨T1.heap H4.out.2.2.2.1.c (fun f=>f),let ⟨x,h1,h2⟩:=H4.out.2.2.2.1.b;⟨x,T1.heap h1 (fun f=>f),h2⟩⟩ hJ
  ·rw [HS.out.2.2.2.1] at h
   exact h
  ·intro W b hb
   have hs4:=H4.out.1
   rcases hC W b hb with h|h
   ·rcases h with ⟨h,_⟩|h
    ·exact .inl ⟨by omega,by omega,by omega⟩
    ·exact .inr h
   ·exact .inl ⟨by omega,by omega,by omega⟩
 case hI=>exact fun pre W W' h T=>h.touchL T (by have:=H4.out.1;omega) (by have:=H4.out.1;omega) (by omega) (by omega)
 case hIx=>exact fun _ _ _ _ h _=>h
 case hI2=>exact fun pre W W' h T=>h.touchB T (by omega) (by have:=H4.out.1;omega)
 case hIx2=>exact fun _ _ _ _ h _=>h
 case h0=>exact ⟨.slice none 0 0,H4.out.2.2.1,Grow.nil _ _ _,H4.out.2.2.2.1.b,Ux.Touch.refl _ _⟩
 case assign=>
  intro l' x W K hK
  unfold encB
  gi_wp2
  exact hK
 case stop=>exact fun _ _ _ _ _ h _ _=>h.elim
 case body=>
  intro l' j x W hx hI hW2
  have hjl:j<want.length:=(List.getElem?_eq_some_iff.1 hx).1
  have hlen:(want.take j).length=j:=by rw [List.length_take];omega
  have htk:want.take (j+1)=want.take j++ [x]:=by rw [List.take_add_one,hx];rfl
  obtain ⟨a,c,a',c',w2,k1,k2,krun,k3,k4,k5,k6⟩:=hI.app hW2 (by have:=H4.out.1;omega) (by have:=H4.out.1;omega) (by omega) x (by rw [hlen];have:=HS.out.2.2.2.2;omega) (by omega)
  rw [htk]
  rw [hlen] at k1 krun k3 k5 k6
  have R2:=Lib.hid krun
  have HF:=Lib.hid (And.intro k5 k6)
  clear krun k5 k6 hx hI hlen htk hjl
  gi_wp2_with (gi_at_builtin;refine Ux.wpListIn_app (v1:= .slice a j c) (x1:= .slice (some ⟨W.heap.size,0,none⟩) 1 1) rfl _ _ _ _ rfl rfl rfl (R2.out _) ?_)
  exact HF.out
 case done=>
  intro D W hI hD hDs
  obtain ⟨v,a1,a2,a3,a5⟩:=hI
  have cb:W.cell? ⟨B,0,none⟩=some v:=by rw [cell_of_row W B 0 _ _ (0,0) a1];rfl
  have hcv:=convB a2.row
  have HI:=Lib.hid (And.intro a5 (And.intro hD (And.intro hDs a3)))
  clear a1 a2 a3 a5 hD hDs
  go_wp2
  refine ⟨by simp,.inl ⟨_,_,rfl,run_takeDeferred HI.out.2.1,?_⟩⟩
  refine ⟨_,results_tmp rfl _ _ _,?_,?_,?_⟩
  ·have h:=HS.out.2.2.2.1
   rw [←h]
   rfl
  ·have hD2:=HI.out.2.2.1
   have hs4:=H4.out.1
   have h1:=HI.out.1.heap H4.out.2.2.2.1.c (fun h=>by omega)
   obtain ⟨x,h2,h3⟩:=HI.out.2.2.2
   exact ⟨(World.putObj_heap_other (by omega)).trans h1,x,(World.putObj_heap_other (by omega)).trans h2,h3⟩
  ·have h4s:=H4.out.1
   have T5:Ux.Touch (fun b=>b=b2) w W:=((H4.out.2.1.mono (fun _ _ f=>f.elim):Ux.Touch (fun b=>b=b2) w w4).trans HI.out.1 (fun b hb h=>by have:=H4.out.2.2.2.2;omega))
   exact (T5.mono (fun _ _ h=> .inl h):Ux.Touch (fun b=>b=b2∨w.heap.size≤b) w W)|>fun T=>(Ux.touch_putObj T D (.inr (by have:=HI.out.2.2.1;have:=H4.out.2.2.2.2;omega)) _).mono (fun b hb h=>by omega)
end Go.Proofs.YtikmdhhbamggfaaGreatDoor
