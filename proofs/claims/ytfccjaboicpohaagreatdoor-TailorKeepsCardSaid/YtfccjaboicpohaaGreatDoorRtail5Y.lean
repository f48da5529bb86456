/- A part of the proof that the statement holds for every input that it names. No other condition. -/
import Derived.Test.YtfccjaboicpohaaGreatDoorUxPlanAllY
import Derived.Test.YtfccjaboicpohaaGreatDoorRtail4Y
import Derived.Test.YtfccjaboicpohaaGreatDoorRprsAY
import Derived.Test.YtfccjaboicpohaaGreatDoorTailBY
set_option linter.unusedVariables false
set_option linter.unusedSimpArgs false
namespace Go.Proofs.YtfccjaboicpohaaGreatDoor
open Go.RowKit
open Ux (Row Ent KGrow Ents stepA elemsE iv sv)
open Ux.Sign (cp raw)
open Ux.Rules (Rul okRul okRuls okQ)
theorem appE {P:Program} {w:World} {ops:Array Oper} {rest:List Oper} {o:Oper} {a:Act} {Q:Exit→Act→World→Prop} {v1 x1:Value} {R:Value→World→Prop} (hgd:o.guard=none) (s x:Operand) (t u:TypeId)
 (ho:o.op= .call { callee:= .builtin .append,args:= #[s,x],argTypes:= #[t,u] }) (hs:a.eval s=v1) (hx:a.eval x=x1)
 (hE: ∃r w',(∀ty,(Builtin.append_ #[t,u] ty #[v1,x1]).run P w= .ok r w')∧R r w') (h: ∀r w',R r w'→wpList P ops Q rest (a.put o.dst r) w'):wpList P ops Q (o::rest) a w:=by
 obtain ⟨r,w',h1,h2⟩:=hE
 exact Ux.wpList_app hgd s x t u ho hs hx (h1 _) (h r w' h2)
theorem appRow {W W0:World} {n c m cx k':Nat} {a ax:Option Addr} {l k:List Nat} (hG:KGrow W W0.heap.size 121 4 (.slice a n c) n (rv l)) (hx:RRow W (.slice ax m cx) k) (hT:Ux.Touch (fun _=>False) W0 W) (hk:n+m=k') (hn:n≤1000) (hm:k.length≤1000):
 ∃r w',(∀ty,(Builtin.append_ #[50,50] ty #[.slice a n c,.slice ax m cx]).run Tryz.prog W= .ok r w')∧(∃a' c',r= .slice a' k' c'∧KGrow w' W0.heap.size 121 4 (.slice a' k' c') k' (rv (l++k))∧Ux.Touch (fun _=>False) W0 w'∧∀(b:Nat) (cs:Array Value),W.heap[b]? =some (Obj.cells cs 36 (0,0))→w'.heap[b]? =some (Obj.cells cs 36 (0,0))):=by
 have hx':=hx
 obtain ⟨_,_,e,_⟩:=hx
 have hmk:m=k.length:=by cases e;rfl
 subst hmk
 subst hk
 obtain ⟨r,w',h1,h2,h3⟩:=hG.app (P:=Tryz.prog) 50 32 _ Tryz.underlying50 infoRE rfl (by omega) (.slice ax k.length cx) k.length (rv k) (RRow.src hx') hT.size (by simp only [maxLen];omega) (by omega)
 obtain ⟨a',c',rfl,_⟩:=h2.is
 rw [←rv_app] at h2
 refine ⟨_,w',h1,a',c',rfl,h2,hT.trans (R:=fun _=>False) h3 fun b hb hh=>by have:=hh.1;omega,fun b cs hb=>h3.heap hb fun hh=> ?_⟩
 rcases hG.1.2 with ⟨hv,h0⟩|⟨g',cap,cur,hv,_,hh2,_⟩
 ·cases hv
  have:=hh.2
  cases this
 ·cases hv
  have:=hh.2
  cases this
  rw [hb] at hh2
  cases hh2
theorem rwithD_ (v vs vl:Value) (T:List Ent) (s:List Int) (l:List Nat) (A:Nat→Prop) (w:World) (hT:RRows w A v T) (hs:IView w vs s) (h63:s.length≤9223372036854775807) (hl:RRow w vl l) (hll:l.length≤1000) (hn:T.length≤10000) (hT3: ∀e∈T,1≤e.1.length∧e.1.length≤3):
 Calls Tryz.prog 20 #[.agg #[v],vs,vl] w fun e w'=> ∃u,e= .returned (.tuple #[.agg #[u],.int .i64 (codeE T s l:Nat)])∧RRows w' (fun b=>A b∨w.heap.size≤b) u (if codeE T s l=0 then Ux.putE T (s.map Int.toNat) l else [])∧Ux.Touch (fun _=>False) w w':=by
 by_cases h8:8<l.length
 ·have h1:codeE T s l=1:=by unfold codeE;rw [if_pos (.inr h8)]
  rw [h1]
  refine (rwithLen_ v vs vl T s l A w hT hs hl h63 (by omega) (.inr (.inr h8))).mono ?_
  rintro e w' ⟨rfl,T1⟩
  exact ⟨_,rfl,RRows.nil _ _,T1⟩
 ·exact rwithC_ v vs vl T s l A w hT hs h63 hl (by omega) hn hT3
structure ApSt (w:World) (q:Nat) (A1:Nat→Prop) (x1:Option Addr) (n1 c1:Nat) (T1:List Ent) (va:Value) (a1:List Nat):Prop where
 blk:w.heap[q]? =some (.cells #[.slice x1 n1 c1] 36 (0,0))
 rows:RRows w A1 (.slice x1 n1 c1) T1
 row:RRow w va a1
 cap:capOk va
 own: ∀g,va.ownBlock=some g→A1 g∧g<w.heap.size
theorem ApSt.touch0 {w w':World} {q:Nat} {A1:Nat→Prop} {x1:Option Addr} {n1 c1:Nat} {T1:List Ent} {va:Value} {a1:List Nat} (h:ApSt w q A1 x1 n1 c1 T1 va a1) (t:Ux.Touch (fun _=>False) w w'):ApSt w' q A1 x1 n1 c1 T1 va a1:=
 ⟨t.heap h.blk (fun f=>f),h.rows.touch0 t,h.row.touch0 t,h.cap,fun g hg=>⟨(h.own g hg).1,Nat.lt_of_lt_of_le (h.own g hg).2 t.size⟩⟩
theorem ApSt.cell {w:World} {q:Nat} {A1:Nat→Prop} {x1:Option Addr} {n1 c1:Nat} {T1:List Ent} {va:Value} {a1:List Nat} (h:ApSt w q A1 x1 n1 c1 T1 va a1):w.cell? ⟨q,0,none⟩=some (.slice x1 n1 c1)∧w.frozen? ⟨q,0,none⟩=false:=
 ⟨by rw [cell_of_row w q 0 _ _ (0,0) h.blk];rfl,Ux.frozen_row h.blk 0⟩
theorem ApSt.put {w:World} {q:Nat} {A1:Nat→Prop} {x1 x2:Option Addr} {n1 c1 n2 c2:Nat} {T1 T2:List Ent} {va vb:Value} {a1 b1:List Nat} (h:ApSt w q A1 x1 n1 c1 T1 va a1) (hA: ¬A1 q) (hr:RRows w A1 (.slice x2 n2 c2) T2) (hb:RRow w vb b1) (hc:capOk vb) (ho: ∀g,vb.ownBlock=some g→A1 g∧g<w.heap.size):
 ApSt (w.setCell ⟨q,0,none⟩ (.slice x2 n2 c2)) q A1 x2 n2 c2 T2 vb b1∧Ux.Touch (fun b=>b=q) w (w.setCell ⟨q,0,none⟩ (.slice x2 n2 c2)):=by
 have t:Ux.Touch (fun b=>b=q) w (w.setCell ⟨q,0,none⟩ (.slice x2 n2 c2)):=(Ux.Touch.refl (fun b=>b=q) w).setCell (p:=⟨q,0,none⟩) (fun _=>rfl) _
 exact ⟨⟨Ux.setCell_row h.blk 0 _,hr.touchB t fun g _ hg e=>hA (e▸hg),hb.touchB t fun g hg e=>hA (e▸(ho g hg).1),hc,fun g hg=>⟨(ho g hg).1,Nat.lt_of_lt_of_le (ho g hg).2 t.size⟩⟩,t⟩
def RApplyR (w:World) (A:Nat→Prop) (r:Nat×List Ent) (e:Ending):Prop:=
 (r.1≠0∧e= .returned (.tuple #[.agg #[.slice none 0 0],.int .i64 (r.1:Nat)]))∨(r.1=0∧∃x n c,e= .returned (.tuple #[.agg #[.slice x n c],.int .i64 0])∧RRows w A (.slice x n c) r.2)
end Go.Proofs.YtfccjaboicpohaaGreatDoor
