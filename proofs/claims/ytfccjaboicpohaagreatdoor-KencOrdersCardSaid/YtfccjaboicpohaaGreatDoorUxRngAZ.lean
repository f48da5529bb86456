/- A part of the proof that the statement holds for every input that it names. No other condition. -/
import Derived.RangeFuncKeeps
import Derived.RangeFuncCalls
import Derived.OwnWalkIn
import Derived.TacticsInMore
import Derived.LoopIn
import Derived.Shelf.Abstract
import Derived.Test.YtfccjaboicpohaaGreatDoorUxMemAZ
set_option linter.unusedVariables false
set_option linter.unusedSimpArgs false
namespace Go.Ux
open Go Go.RowKit
variable {P:Program} {α:Type}
theorem touch_putObj {R:Nat→Prop} {a w:World} (h:Touch R a w) (l:Nat) (hl:R l) (o:Obj):Touch R a (w.putObj l o):=
 ⟨h.os,h.tape,h.output,by have:=h.size;simpa using this,fun i hi hn=>by
   by_cases e:i=l
   ·subst e;exact absurd hl hn
   ·exact (World.putObj_heap_other (by first|exact e|exact fun h=>e h.symm)).trans (h.block i hi hn)⟩
def RngDone (want:List α) (J Jx:List α→World→Prop) (e:Ending) (W':World):Prop:=(∃v,e= .returned v)∧(J want W'∨∃j,j<want.length∧Jx (want.take (j+1)) W')
end Go.Ux
namespace Go.Ux
open Go Go.RowKit
variable {P:Program} {α:Type}
theorem wpListIn_app {F:Fence} {n:Nat} {w:World} {ops:Array Oper} {rest:List Oper} {o:Oper} {a:Act} {Q:Exit→Act→World→Prop} {v1 x1 v':Value} {w':World} (hgd:o.guard=none) (s x:Operand) (t u:TypeId)
 (ho:o.op= .call { callee:= .builtin .append,args:= #[s,x],argTypes:= #[t,u] }) (hs:a.eval s=v1) (hx:a.eval x=x1)
 (hr:(Builtin.append_ #[t,u] o.type #[v1,x1]).run P w= .ok v' w') (h:wpListIn F n P ops Q rest (a.put o.dst v') w'):wpListIn F n P ops Q (o::rest) a w:=
 wpListIn_plain hgd fun _ hK=>by
  unfold Oper.wpIn
  refine ⟨?_,?_⟩
  ·simp [Oper.about,ho,resolve,Target.leads,Sem.run_pure]
  ·rw [Oper.semAt_plain F _ _ (by rw [ho];intro c hc';cases hc')]
   simp [execOp,ho,resolve,invoke,builtin,hs,hx,hr,Result.andThen]
   exact hK _ _ h
end Go.Ux
namespace Go.Ux
open Go Go.RowKit
variable {P:Program} {α:Type}
structure RoundsR (P:Program) (enc:α→Array Value) (l:Nat) (want:List α) (C:World→Nat→Prop) (It:World→World→Prop) (J Jx:List α→World→Prop):Prop where
 round: ∀j p W,want[j]? =some p→J (want.take j) W→YieldAt Fence.wide 5 P l (enc p) W fun e W'=>
  (e= .returned (.bool true)∧J (want.take (j+1)) W'∧Touch (C W) W W')∨(e= .returned (.bool false)∧Jx (want.take (j+1)) W')
 stays: ∀pre W W',J pre W→It W W'→J pre W'
 staysX: ∀pre W W',Jx pre W→It W W'→Jx pre W'
def BodyPostR (CC:World→Nat→Prop) (I:List α→World→Prop) (Ix:Code→List α→World→Prop) (xs:List α) (W:World):Exit→Act→World→Prop
 | .normal,_,W'=>Touch (CC W) W W'∧I xs W'
 | .ret,_,W'=>Touch (CC W) W W'∧Ix .ret xs W'
 | .exit id,_,W'=>Touch (CC W) W W'∧Ix (.exit id) xs W'
 |_,_,_=>False
set_option maxHeartbeats 1000000 in
theorem wp_rangeR {g:Operand} {ps:Array Tmp} {assign body:Code} {Q:Exit→Act→World→Prop} {a:Act} {w:World} {gf:Nat} {fn0:Func} {c0:Code} {lb:Array Value} {enc:α→Array Value} {want:List α}
 (hg:a.eval g= .func (.func gf) #[] lb) (hgf:P.funcs[gf]? =some fn0) (hgn:(fn0.name== "runtime.NumGoroutine")=false) (hgb:fn0.body=some c0) (hps: ∀x,(enc x).size=ps.size)
 (CC:World→Nat→Prop) (IT:Nat→Prop) (It:World→World→Prop) (hIt: ∀W W',It W W'→Touch IT W W') (hCC: ∀W b,CC W b→∃cs t fz,W.heap[b]? =some (.cells cs t fz)) (hCCm: ∀W W' b,W.heap[b]? =W'.heap[b]?→CC W b→CC W' b) (hIT: ∀b,IT b→b≠w.heap.size∧b≠w.heap.size+1)
 (hit: ∀(l:Nat) (C:World→Nat→Prop) (W1:World) (J Jx:List α→World→Prop),l=w.heap.size+1→(∀W b,C W b→CC W b∨b=l)→W1.heap.size=w.heap.size+2→Touch (fun _=>False) w W1→RoundsR P enc l want C It J Jx→J [] W1→
   Calls P gf (#[.func (.yield l) #[] #[]]++lb) W1 (RngDone want J Jx))
 (I:List α→World→Prop) (Ix:Code→List α→World→Prop)
 (hI: ∀pre W W',I pre W→Touch (fun b=>b=w.heap.size+1) W W'→I pre W') (hIx: ∀c pre W W',Ix c pre W→Touch (fun b=>b=w.heap.size+1) W W'→Ix c pre W') (hI2: ∀pre W W',I pre W→It W W'→I pre W') (hIx2: ∀c pre W W',Ix c pre W→It W W'→Ix c pre W') (h0:I [] w) (a₁:α→Act)
 (hassign: ∀(l:Nat) (x:α) (W:World) (K:Act→World→Prop),K (a₁ x) W→
   assign.wpIn (Fence.wide.inRound l) 5 P (Exit.then K (fun _ _ _=>False)) { tmps:=(ps.zip (enc x)).foldl (fun t (p,v)=>t.setIfInBounds p v) a.tmps,defers:= [] } W)
 (hbody: ∀(l j:Nat) (x:α) (W:World),want[j]? =some x→I (want.take j) W→w.heap.size+2≤W.heap.size→body.wpIn (Fence.wide.inRound l) 5 P (BodyPostR CC I Ix (want.take (j+1)) W) (a₁ x) W)
 (hdone: ∀(D:Nat) (W:World),I want W→W.heap[D]? =some (.deferred (some []))→w.heap.size≤D→Q .normal { a with defers:= { target:= .collected D,args:= #[] }::a.defers } W)
 (hstop: ∀(D:Nat) (c:Code) (j:Nat) (W:World),j<want.length→Ix c (want.take (j+1)) W→W.heap[D]? =some (.deferred (some []))→w.heap.size≤D→c.wp P Q { a with defers:= { target:= .collected D,args:= #[] }::a.defers } W):
 (Code.rangeFunc g ps assign body).wp P Q a w:=by
 refine (wpIn_wide (n:=6)).1 (wpIn_rangeFunc ?_)
 intro fn _
 obtain ⟨rec,hrec⟩: ∃rec:LoopState→Option Code→Loop,rec=fun st pe=> { state:=st,pending:=pe,fn,tmps:=a.tmps,params:=ps,assign,body,defers:=w.heap.size }:=⟨_,rfl⟩
 obtain ⟨W1,hW1⟩: ∃W1,(w.alloc (.deferred (some []))).alloc (.loop (rec .ready none))=W1:=⟨_,rfl⟩
 have hL1:W1.heap[w.heap.size+1]? =some (.loop (rec .ready none)):=by
  rw [←hW1];have:=World.alloc_heap_new (w.alloc (.deferred (some []))) (.loop (rec .ready none));rwa [World.size_alloc] at this
 have hK1:W1.heap[w.heap.size]? =some (.deferred (some [])):=by
  rw [←hW1];exact (Below.heap_alloc _ _ _ (by simp)).trans (World.alloc_heap_new w _)
 have T1:Touch (fun _=>False) w W1:=by rw [←hW1];exact ((Touch.refl _ w).alloc _).alloc _
 have hS1:W1.heap.size=w.heap.size+2:=by rw [←hW1];simp
 refine ⟨w.heap.size+1,[{ target:= .collected w.heap.size,args:= #[] }],W1,{ target:= .fn (.func gf) lb,args:= #[.func (.yield (w.heap.size+1)) #[] #[]] },W1,gf,
  #[.func (.yield (w.heap.size+1)) #[] #[]]++lb,W1,?_,?_,?_,?_,(fun _=>by omega),?_⟩
 ·rw [←hW1,hrec];exact run_enterLoop_outer _ _ _ _ _
 ·simp only [resolve,hg]
  simp [go_sem]
 ·intro f' _;trivial
 ·simp [invoke,go_sem]
  exact Go.Proofs.enters_of hgf hgn hgb _ _
 ·refine callsIn_wide.2 ?_
  refine (hit (w.heap.size+1) (fun W b=>CC W b∨b=w.heap.size+1) W1
   (fun pre W=>I pre W∧W.heap[w.heap.size+1]? =some (.loop (rec .ready none))∧W.heap[w.heap.size]? =some (.deferred (some [])))
   (fun pre W=> ∃c,Ix c pre W∧W.heap[w.heap.size+1]? =some (.loop (rec .done (some c)))∧W.heap[w.heap.size]? =some (.deferred (some [])))
   rfl (fun W b hb=>hb) hS1 T1 ?_ ⟨hI _ _ _ h0 (T1.mono (fun _ _ f=>f.elim)),hL1,hK1⟩).mono ?_
  ·refine ⟨fun j x W hx hJ=> ?_,fun pre W W' hJ T=>⟨hI2 _ _ _ hJ.1 T,(hIt _ _ T).heap hJ.2.1 (fun h=>(hIT _ h).2 rfl),(hIt _ _ T).heap hJ.2.2 (fun h=>(hIT _ h).1 rfl)⟩,fun pre W W' hJ T=> ?_⟩
   ·obtain ⟨hi',hl,hk⟩:=hJ
    have hlt:w.heap.size+1<W.heap.size:=(Array.getElem?_eq_some_iff.1 hl).1
    have hy:=run_yield (P:=P) (args:=enc x) hl (by rw [hrec];exact hps x)
    rw [hrec] at hy
    refine ⟨fn,_,assign,body,hy,roundIn_of_wpIn trivial (hassign _ x W _ ⟨_,run_beginRound hl (by rw [hrec]),?_⟩)⟩
    have hl2:(W.putObj (w.heap.size+1) (.loop { rec .ready none with state:= .busy })).heap[w.heap.size+1]? =some (.loop { rec .ready none with state:= .busy }):=World.putObj_heap_same hlt
    have hk2:(W.putObj (w.heap.size+1) (.loop { rec .ready none with state:= .busy })).heap[w.heap.size]? =some (.deferred (some [])):=(World.putObj_heap_other (by omega)).trans hk
    have T2:Touch (fun b=>b=w.heap.size+1) W (W.putObj (w.heap.size+1) (.loop { rec .ready none with state:= .busy })):=touch_putObj (Touch.refl (fun b=>b=w.heap.size+1) W) (w.heap.size+1) rfl _
    refine wpIn_mono (hbody _ j x _ hx (hI _ _ _ hi' T2) (Nat.le_trans (show w.heap.size+2≤W.heap.size by omega) T2.size)) ?_
    have fin: ∀(jump:Option Code) (W3:World),Touch (CC (W.putObj (w.heap.size+1) (.loop { rec .ready none with state:= .busy }))) (W.putObj (w.heap.size+1) (.loop { rec .ready none with state:= .busy })) W3→
     (Instr.endRound (w.heap.size+1) jump).run P W3= .ok (.bool jump.isNone) (W3.putObj (w.heap.size+1) (.loop (rec (if jump.isNone then .ready else .done) jump)))∧
     (W3.putObj (w.heap.size+1) (.loop (rec (if jump.isNone then .ready else .done) jump))).heap[w.heap.size+1]? =some (.loop (rec (if jump.isNone then .ready else .done) jump))∧
     (W3.putObj (w.heap.size+1) (.loop (rec (if jump.isNone then .ready else .done) jump))).heap[w.heap.size]? =some (.deferred (some []))∧
     Touch (fun b=>b=w.heap.size+1) W3 (W3.putObj (w.heap.size+1) (.loop (rec (if jump.isNone then .ready else .done) jump))):=fun jump W3 T3=>by
     have hl3:=T3.heap hl2 (fun h=>by obtain ⟨cs,t,fz,e⟩:=hCC _ _ h;rw [hl2] at e;cases e)
     have hk3':=T3.heap hk2 (fun h=>by obtain ⟨cs,t,fz,e⟩:=hCC _ _ h;rw [hk2] at e;cases e)
     have:=run_endRound (P:=P) jump hl3
     rw [hrec] at this⊢
     exact ⟨this,World.putObj_heap_same (Array.getElem?_eq_some_iff.1 hl3).1,(World.putObj_heap_other (by omega)).trans hk3',touch_putObj (Touch.refl (fun b=>b=w.heap.size+1) W3) (w.heap.size+1) rfl _⟩
    have up: ∀W3:World,Touch (fun b=>b=w.heap.size+1) W3 W3:=fun W3=>Touch.refl _ W3
    rintro e a3 W3 hp
    cases e with
    |normal=>
     obtain ⟨T3,hi3⟩:=hp
     obtain ⟨hr,hl4,hk4',T4⟩:=fin none W3 T3
     exact ⟨_,_,hr,.inl ⟨rfl,⟨hI _ _ _ hi3 T4,hl4,hk4'⟩,((T2.mono (fun b _ h=> .inr h):Touch (fun b=>CC W b∨b=w.heap.size+1) _ _).trans T3 (fun b _ h=>by
      by_cases e:b=w.heap.size+1
      ·exact .inr e
      ·exact .inl (hCCm _ _ b (World.putObj_heap_other (fun e'=>e e')) h))).trans T4 (fun b _ h=> .inr h)⟩⟩
    |ret=>
     obtain ⟨T3,hi3⟩:=hp
     obtain ⟨hr,hl4,hk4',T4⟩:=fin (some .ret) W3 T3
     exact ⟨_,_,hr,.inr ⟨rfl,.ret,hIx _ _ _ _ hi3 T4,hl4,hk4'⟩⟩
    |exit id=>
     obtain ⟨T3,hi3⟩:=hp
     obtain ⟨hr,hl4,hk4',T4⟩:=fin (some (.exit id)) W3 T3
     exact ⟨_,_,hr,.inr ⟨rfl,.exit id,hIx _ _ _ _ hi3 T4,hl4,hk4'⟩⟩
    |goto t=>exact hp.elim
    |panic ch=>exact hp.elim
    |outgrown=>exact hp.elim
   ·obtain ⟨c,h1,h2,h3⟩:=hJ
    exact ⟨c,hIx2 _ _ _ _ h1 T,(hIt _ _ T).heap h2 (fun h=>(hIT _ h).2 rfl),(hIt _ _ T).heap h3 (fun h=>(hIT _ h).1 rfl)⟩
  ·rintro e W2 ⟨⟨v,rfl⟩,(⟨hi',hl,hk⟩|⟨j,hj,c,hi',hl,hk⟩)⟩
   ·exact ⟨none,_,by have:=run_endLoop (P:=P) hl (by rw [hrec];simp);rw [hrec] at this;exact this,hdone _ _ (hI _ _ _ hi' (touch_putObj (Touch.refl (fun b=>b=w.heap.size+1) W2) (w.heap.size+1) rfl _)) ((World.putObj_heap_other (by omega)).trans hk) (Nat.le_refl _)⟩
   ·exact ⟨some c,_,by have:=run_endLoop (P:=P) hl (by rw [hrec];simp);rw [hrec] at this;exact this,(wpIn_wide (n:=6)).2 (hstop _ c j _ hj (hIx _ _ _ _ hi' (touch_putObj (Touch.refl (fun b=>b=w.heap.size+1) W2) (w.heap.size+1) rfl _)) ((World.putObj_heap_other (by omega)).trans hk) (Nat.le_refl _))⟩
end Go.Ux
