/- A part of the proof that the statement holds for every input that it names. No other condition. -/
import Derived.WalkKit
import Derived.OrdersHeld
import Derived.Deep.Quiet
set_option linter.unusedVariables false
set_option linter.unusedSimpArgs false
namespace Go.Ux
open Go Go.RowKit
variable {P:Program}
theorem wpList_app {w:World} {ops:Array Oper} {rest:List Oper} {o:Oper} {a:Act} {Q:Exit→Act→World→Prop} {v1 x1 v':Value} {w':World} (hgd:o.guard=none) (s x:Operand) (t u:TypeId)
 (ho:o.op= .call { callee:= .builtin .append,args:= #[s,x],argTypes:= #[t,u] }) (hs:a.eval s=v1) (hx:a.eval x=x1)
 (hr:(Builtin.append_ #[t,u] o.type #[v1,x1]).run P w= .ok v' w') (h:wpList P ops Q rest (a.put o.dst v') w'):wpList P ops Q (o::rest) a w:=
 wpList_plain hgd fun _ hK=>by
  unfold Oper.wp execOp
  simp only [ho,resolve,invoke,builtin,Sem.run_bind,Sem.run_pure,Result.andThen_ok,List.map_toArray,List.map_cons,List.map_nil,hs,hx,hr]
  exact hK _ _ h
end Go.Ux
namespace Go.Ux
open Go
section
variable {P:Program} {ops:Array Oper} {Q:Exit→Act→World→Prop} {S:Bool→World→Prop}
def keepS (F:List Nat) (listed:Array Bool):Prop:= ∀f∈F,listed.getD f true=false
def wpAnyE (P:Program) (ops:Array Oper) (Q:Exit→Act→World→Prop) (S:Bool→World→Prop) (A:List Nat) (F:Bool→List Nat):Nat→Array Bool→Act→World→Prop
 |0,listed,a,w=>Region.ready .any ops listed= []∧Q .normal a w
 |fuel+1,listed,a,w=>
  if A.all (fun i=>listed.getD i true)=true then wpAny P .any ops Q (fuel+1) listed a w
  else (Region.ready .any ops listed= []→Q .normal a w)∧
   ∀i∈Region.ready .any ops listed,wpOp P ops Q i (fun a' w'=>(∀c,keepS (F c) (listed.setIfInBounds i true)→S c w')∧wpAnyE P ops Q S A F fuel (listed.setIfInBounds i true) a' w') a w
theorem wpAny_of_E {A:List Nat} {F:Bool→List Nat}: ∀(fuel:Nat) (listed:Array Bool) (a:Act) (w:World),wpAnyE P ops Q S A F fuel listed a w→wpAny P .any ops Q fuel listed a w
 |0,_,_,_,h=>h
 |fuel+1,listed,a,w,h=>by
  unfold wpAnyE at h
  split at h
  ·exact h
  ·exact ⟨h.1,fun i hi=>wpOp_mono (fun a' w' h'=>wpAny_of_E fuel _ a' w' h'.2) (h.2 i hi)⟩
theorem keepS_set {F:List Nat} {listed:Array Bool} {i:Nat} (hi:i∉F):keepS F (listed.setIfInBounds i true)↔keepS F listed:=by
 unfold keepS
 constructor
 ·intro h f hf
  have:=h f hf
  rwa [getD_set_ne true (fun e:i=f=>hi (e▸hf))] at this
 ·intro h f hf
  rw [getD_set_ne true (fun e:i=f=>hi (e▸hf))]
  exact h f hf
theorem getD_lt_of_false {listed:Array Bool} {i:Nat} (h:listed.getD i true=false):i<listed.size:=by
 rcases Nat.lt_or_ge i listed.size with h'|h'
 ·exact h'
 ·simp [Array.getElem?_eq_none h'] at h
theorem not_all {A:List Nat} {listed:Array Bool} {i:Nat} (hA:i∈A) (h:listed.getD i true=false): ¬(A.all (fun i=>listed.getD i true)=true):=by
 intro hall
 have:=List.all_eq_true.1 hall i hA
 rw [h] at this
 cases this
theorem not_ready_of_waits {listed:Array Bool} {i j:Nat} {oj:Oper} (hj:ops[j]? =some oj) (hi:listed.getD i true=false)
 (hw: ∃e∈oj.after,Region.binds .any e=true∧e.on=i) (hr:j∈Region.ready .any ops listed):False:=by
 obtain ⟨e,he,hb,hon⟩:=hw
 obtain ⟨_,o,ho,hall⟩:=mem_ready.1 hr
 rw [hj] at ho
 cases ho
 have h1:=hall e he hb
 rw [hon] at h1
 have hlt:=getD_lt_of_false hi
 simp [hlt] at h1 hi
 rw [hi] at h1
 cases h1
theorem wpAnyE_first {A:List Nat} {F:Bool→List Nat} {T:World→Prop} {i:Nat} {oi:Oper} {v:Value} (hi:ops[i]? =some oi) (hA:i∈A) (hiF: ∀c,i∉F c) (hsel: ∀(j:Nat) (o:Oper) cs b,ops[j]? =some o→o.op≠.select cs b)
 (hQ: ∀c a w,Q (.panic c) (a.put oi.dst v) w→Q (.panic c) a w)
 (hB: ∀j oj,ops[j]? =some oj→j∉A→∃e∈oj.after,Region.binds .any e=true∧e.on=i):
 ∀(fuel:Nat) (listed:Array Bool) (a:Act) (w:World),
  ((∀w,T w)∨∃c,(∀w,S c w→T w)∧keepS (F c) listed∧∀f∈F c,∀oj,ops[f]? =some oj→∃e∈oj.after,Region.binds .any e=true∧e.on=i)→
  (∀j oj,ops[j]? =some oj→j≠i→listed.getD j true=false→(∀e∈oj.after,Region.binds .any e=true→e.on≠i)→oi.apart ops oj=true)→
  i∈Region.ready .any ops listed→YieldsIf P ops T oi v a→T w→(∀c,keepS (F c) listed→S c w)→
  wpAnyE P ops Q S A F fuel (listed.setIfInBounds i true) (a.put oi.dst v) w→wpAnyE P ops Q S A F (fuel+1) listed a w:=by
 intro fuel
 induction fuel with
 |zero=>
  intro listed a w _ _ hr hy hT hS H
  unfold wpAnyE
  rw [if_neg (not_all hA (mem_ready.1 hr).1)]
  refine ⟨fun h=>(by rw [h] at hr;cases hr),fun j hj=> ?_⟩
  by_cases hji:j=i
  ·subst hji;exact hy.wpOp hi hT ⟨fun c hk=>hS c ((keepS_set (hiF c)).1 hk),H⟩
  ·have:=ready_mono hj hji
   rw [H.1] at this
   cases this
 |succ fuel ih=>
  intro listed a w hF hfree hr hy hT hS H
  have hun:=(mem_ready.1 hr).1
  unfold wpAnyE
  rw [if_neg (not_all hA hun)]
  refine ⟨fun h=>(by rw [h] at hr;cases hr),fun j hj=> ?_⟩
  by_cases hji:j=i
  ·subst hji;exact hy.wpOp hi hT ⟨fun c hk=>hS c ((keepS_set (hiF c)).1 hk),H⟩
  ·obtain ⟨hjun,oj,hoj,hall⟩:=mem_ready.1 hj
   have hjA:j∈A:=by
    by_cases h:j∈A
    ·exact h
    ·exact (not_ready_of_waits hoj hun (hB j oj hoj h) hj).elim
   have hjun':(listed.setIfInBounds i true).getD j true=false:=by rw [getD_set_ne true (Ne.symm hji)];exact hjun
   unfold wpAnyE at H
   rw [if_neg (not_all hjA hjun')] at H
   have h1:=H.2 j (ready_mono hj hji)
   have hnot: ∀e∈oj.after,Region.binds .any e=true→e.on≠i:=fun e he hb heq=>not_ready_of_waits hoj hun ⟨e,he,hb,heq⟩ hj
   have h2:=wpOp_putIf hoj (hfree j oj hoj hji hjun hnot) (fun cs b=>hsel i oi cs b hi) (fun cs b=>hsel j oj cs b hoj) hQ hy h1
   have hfree': ∀k ok,ops[k]? =some ok→k≠i→(listed.setIfInBounds j true).getD k true=false→
    (∀e∈ok.after,Region.binds .any e=true→e.on≠i)→oi.apart ops ok=true:=fun k ok hk hki hun hno=>by
    refine hfree k ok hk hki ?_ hno
    by_cases hjk:j=k
    ·subst hjk;exact hjun
    ·rw [getD_set_ne true hjk] at hun;exact hun
   refine wpOp_mono (fun a' w' h3=> ?_) h2
   have hS': ∀c,keepS (F c) (listed.setIfInBounds j true)→S c w':=fun c hk=>h3.2.1 c (by
    rw [Array.setIfInBounds_comm _ _ (Ne.symm hji)]
    exact (keepS_set (hiF c)).2 hk)
   have hF':(∀w,T w)∨∃c,(∀w,S c w→T w)∧keepS (F c) (listed.setIfInBounds j true)∧∀f∈F c,∀oj,ops[f]? =some oj→∃e∈oj.after,Region.binds .any e=true∧e.on=i:=by
    rcases hF with h|⟨c,hST,hk,hw⟩
    ·exact .inl h
    ·refine .inr ⟨c,hST,(keepS_set (fun hjF=> ?_)).2 hk,hw⟩
     exact not_ready_of_waits hoj hun (hw j hjF oj hoj) hj
   have hT':T w':=by
    rcases hF' with h|⟨c,hST,hk,_⟩
    ·exact h w'
    ·exact hST _ (hS' c hk)
   refine ⟨hS',ih (listed.setIfInBounds j true) a' w' hF' hfree' (ready_mono hr (Ne.symm hji)) h3.1 hT' hS' ?_⟩
   rw [Array.setIfInBounds_comm _ _ hji]
   exact h3.2.2
def plainOp:Op→Bool
 | .move _| .assign _| .pick .. | .load .. | .lookup .. | .nilCheck _| .binOp .. | .unOp .. | .convert .. | .slice .. | .fieldAddr .. | .field .. | .indexAddr .. | .index .. | .extract .. | .makeFunc .. | .makeInterface .. | .build .. =>true
 | .call { callee:= .builtin b,.. }=>match b with| .len| .cap| .min| .max=>true|_=>false
 |_=>false
def ValueOnly (P:Program) (s:Sem Next):Prop:= ∀w n w',s.run P w= .ok n w'→∃v,n= .value v
theorem ValueOnly.pure (v:Value):ValueOnly P (Pure.pure (Next.value v)):=by
 intro w n w' h
 change Sem.run P (Sem.pure _) w=_ at h
 simp only [Sem.run,Result.ok.injEq] at h
 exact ⟨v,h.1.symm⟩
theorem ValueOnly.halt (x:Halt):ValueOnly P (Sem.halt x):=by
 intro w n w' h
 simp only [Sem.run] at h
 cases h
theorem ValueOnly.bind {α:Type} (s:Sem α) (k:α→Sem Next) (hk: ∀x,ValueOnly P (k x)):ValueOnly P (s>>=k):=by
 change ValueOnly P (s.bind k)
 induction s with
 |pure a=>exact hk a
 |load m a k' ih=>
  intro w n w' h
  simp only [Sem.bind,Sem.run] at h
  split at h
  ·exact ih _ _ _ _ h
  ·split at h
   ·exact ih _ _ _ _ h
   ·cases h
 |store m a v k' ih=>
  intro w n w' h
  simp only [Sem.bind] at h
  unfold Sem.run at h
  split at h<;>simp_all
  all_goals first
   |(split at h
     ·split at h
      ·cases h
      ·exact ih _ _ _ h
     ·split at h
      ·exact ih _ _ _ h
      ·cases h)
 |new o k' ih=>intro w n w' h;simp only [Sem.bind,Sem.run] at h;exact ih _ _ _ _ h
 |shape r k' ih=>intro w n w' h;simp only [Sem.bind,Sem.run] at h;exact ih _ _ _ _ h
 |freeze a m k' ih=>intro w n w' h;simp only [Sem.bind,Sem.run] at h;exact ih _ _ _ h
 |frozen a k' ih=>intro w n w' h;simp only [Sem.bind,Sem.run] at h;exact ih _ _ _ _ h
 |getObj r k' ih=>
  intro w n w' h
  simp only [Sem.bind,Sem.run] at h
  split at h
  ·cases h
  ·exact ih _ _ _ _ h
  ·cases h
 |setObj r o k' ih=>
  intro w n w' h
  simp only [Sem.bind,Sem.run] at h
  split at h
  ·cases h
  ·exact ih _ _ _ h
  ·cases h
 |choose q k' ih=>
  intro w n w' h
  simp only [Sem.bind,Sem.run] at h
  split at h<;>exact ih _ _ _ _ h
 |sys c k' ih=>intro w n w' h;simp only [Sem.bind,Sem.run] at h;exact ih _ _ _ _ h
 |program k' ih=>intro w n w' h;simp only [Sem.bind,Sem.run] at h;exact ih _ _ _ _ h
 |mark m k' ih=>intro w n w' h;simp only [Sem.bind,Sem.run] at h;exact ih _ _ _ h
 |halt x=>intro w n w' h;simp only [Sem.bind,Sem.run] at h;cases h
theorem ValueOnly.panic (e:RuntimeError):ValueOnly P (runtimePanic e:Sem Next):=by
 unfold runtimePanic
 refine ValueOnly.bind _ _ fun _=> ?_
 cases e<;>dsimp only
 all_goals first
  |exact ValueOnly.halt _
  |(refine ValueOnly.bind _ _ fun _=>ValueOnly.bind _ _ fun _=>ValueOnly.halt _)
theorem plain_value {o:Oper} (h:plainOp o.op=true) (ρ:Operand→Value):ValueOnly P (execOp ρ o):=by
 unfold plainOp at h
 unfold execOp
 split at h
 all_goals try (cases h;done)
 all_goals simp only [*]
 all_goals try exact ValueOnly.pure _
 all_goals try exact ValueOnly.bind _ _ fun _=>ValueOnly.pure _
 ·split
  ·exact ValueOnly.panic _
  ·exact ValueOnly.panic _
  ·exact ValueOnly.panic _
  ·split
   ·exact ValueOnly.panic _
   ·refine ValueOnly.bind _ _ fun _=>ValueOnly.bind _ _ fun _=> ?_
    split
    ·exact ValueOnly.bind _ _ fun _=>ValueOnly.pure _
    ·exact ValueOnly.pure _
   ·exact ValueOnly.pure _
  ·exact ValueOnly.pure _
 ·split at h
  all_goals try (cases h;done)
  ·change ValueOnly P (builtin .len _ _ #[] _);exact ValueOnly.bind _ _ fun _=>ValueOnly.pure _
  ·change ValueOnly P (builtin .cap _ _ #[] _);exact ValueOnly.bind _ _ fun _=>ValueOnly.pure _
  ·change ValueOnly P (builtin .min _ _ #[] _);exact ValueOnly.bind _ _ fun _=>ValueOnly.pure _
  ·change ValueOnly P (builtin .max _ _ #[] _);exact ValueOnly.bind _ _ fun _=>ValueOnly.pure _
theorem yieldsIf_of_quiet {T:World→Prop} {o:Oper} {a:Act} {K:Act→Prop} (hp:plainOp o.op=true) (hw:Region.wanted o (yielded ops a.tmps)=true) (h:o.quiet P a T K):
 ∃v,YieldsIf P ops T o v a∧K (a.put o.dst v):=by
 obtain ⟨v,hv,hK⟩:=h
 refine ⟨v,.inl ⟨hw,fun w hS=> ?_⟩,hK⟩
 have h1:=hv w hS
 unfold Oper.quietAt at h1
 have hval:=plain_value (P:=P) hp a.eval w
 generalize (execOp a.eval o).run P w=r at*
 cases r with
 |halt x w'=>simp [Oper.quietUpon] at h1
 |ok n w'=>
  obtain ⟨u,rfl⟩:=hval n w' rfl
  simp only [Oper.quietUpon] at h1
  rw [h1.1,h1.2]
def takeOK (ops:Array Oper) (listed:Array Bool) (i:Nat):Bool:=
 (Region.ready .any ops listed).contains i&&Region.free .any ops listed i&&((ops[i]?).map (plainOp ·.op)).getD false
def quietOK (ops:Array Oper):List Nat→Array Bool→Bool
 | [],_=>true
 |i::is,listed=>takeOK ops listed i&&quietOK ops is (listed.setIfInBounds i true)
def listAll:List Nat→Array Bool→Array Bool
 | [],l=>l
 |i::is,l=>listAll is (l.setIfInBounds i true)
def lineOK (ops:Array Oper):List Nat→Array Bool→Bool
 | [],listed=>(Region.ready .any ops listed).isEmpty
 |i::is,listed=>Region.ready .any ops listed== [i]&&(ops[i]?).isSome&&lineOK ops is (listed.setIfInBounds i true)
inductive Plan where
 |line (B:List Nat)
 |q (ql:List Nat) (p:Plan)
 |h (c:Bool) (ql:List Nat) (p:Plan)
 |e (i:Nat) (k0 k1:Bool) (p:Plan)
 |br (i:Nat) (p:Plan) (j:Nat) (r:Plan)
def Plan.size:Plan→Nat
 | .line B=>B.length
 | .q ql p=>ql.length+p.size
 | .h _ ql p=>ql.length+p.size
 | .e _ _ _ p=>p.size+1
 | .br _ p _ _=>p.size+1
def waits (ops:Array Oper) (j i:Nat):Bool:=
 match ops[j]? with
 |some oj=>oj.after.any fun e=>Region.binds .any e&&e.on==i
 |none=>true
def Plan.ok (ops:Array Oper) (A:List Nat) (F:Bool→List Nat):Plan→Array Bool→Bool
 | .line B,listed=>(A.all fun i=>listed.getD i true)&&lineOK ops B listed
 | .q ql p,listed=>quietOK ops ql listed&&(ql.all fun i=>A.contains i&& !(F false).contains i&& !(F true).contains i)&&p.ok ops A F (listAll ql listed)
 | .h c ql p,listed=>quietOK ops ql listed&&(ql.all fun i=>A.contains i&& !(F false).contains i&& !(F true).contains i&&(F c).all fun f=>waits ops f i)&&((F c).all fun f=> !listed.getD f true)&&p.ok ops A F (listAll ql listed)
 | .e i k0 k1 p,listed=>Region.ready .any ops listed== [i]&&A.contains i&&(k0||(F false).contains i)&&(k1||(F true).contains i)&&(ops[i]?).isSome&&p.ok ops A F (listed.setIfInBounds i true)
 | .br i p j r,listed=>Region.ready .any ops listed== [i,j]&&A.contains i&&A.contains j&&(ops[i]?).isSome&&(ops[j]?).isSome&&p.ok ops A F (listed.setIfInBounds i true)&&r.ok ops A F (listed.setIfInBounds j true)&&p.size==r.size
def Plan.all:Plan→List Nat
 | .line _=> []
 | .q ql p=>ql++p.all
 | .h _ ql p=>ql++p.all
 | .e i _ _ p=>i::p.all
 | .br i p _ _=>i::p.all
def Plan.frees:Plan→Bool→List Nat
 | .line _,_=> []
 | .q _ p,c=>p.frees c
 | .h _ _ p,c=>p.frees c
 | .e i k0 k1 p,c=>if (if c then k1 else k0) then p.frees c else i::p.frees c
 | .br _ p _ _,c=>p.frees c
def waitsOK (ops:Array Oper) (A:List Nat):Bool:=
 (List.range ops.size).all fun j=>A.contains j||A.all fun i=>waits ops j i
def planOK (ops:Array Oper) (p:Plan):Bool:=
 Region.noSelect ops&&waitsOK ops p.all&&(p.size==ops.size)&&p.ok ops p.all p.frees (Array.replicate ops.size false)
def pickOps (ops:Array Oper):List Nat→List Oper
 | []=> []
 |i::is=>match ops[i]? with
  |some o=>o::pickOps ops is
  |none=>pickOps ops is
def keeps (S:Bool→World→Prop):Bool→Bool→World→Prop→Prop
 |false,false,_,K=>K
 |true,false,w,K=>S false w∧K
 |false,true,w,K=>S true w∧K
 |true,true,w,K=>(S false w∧S true w)∧K
theorem keeps_out {k0 k1:Bool} {w:World} {K:Prop} (h:keeps S k0 k1 w K):(k0=true→S false w)∧(k1=true→S true w)∧K:=by
 cases k0<;>cases k1<;>simp_all [keeps]
def wpPlan (P:Program) (ops:Array Oper) (S:Bool→World→Prop) (Q:Exit→Act→World→Prop):Plan→Act→World→Prop
 | .line B,a,w=>wpList P ops Q (pickOps ops B) a w
 | .q ql p,a,w=>wpQuiet P ops (fun _=>True) (fun a'=>wpPlan P ops S Q p a' w) (pickOps ops ql) a
 | .h c ql p,a,w=>wpQuiet P ops (S c) (fun a'=>wpPlan P ops S Q p a' w) (pickOps ops ql) a
 | .e i k0 k1 p,a,w=>wpList P ops (Exit.then (fun a' w'=>keeps S k0 k1 w' (wpPlan P ops S Q p a' w')) Q) (pickOps ops [i]) a w
 | .br i p j r,a,w=>wpList P ops (Exit.then (fun a' w'=>keeps S true true w' (wpPlan P ops S Q p a' w')) Q) (pickOps ops [i]) a w∧wpList P ops (Exit.then (fun a' w'=>keeps S true true w' (wpPlan P ops S Q r a' w')) Q) (pickOps ops [j]) a w
theorem lineOK_sound: ∀(B:List Nat) (listed:Array Bool) (a:Act) (w:World),lineOK ops B listed=true→wpList P ops Q (pickOps ops B) a w→wpAny P .any ops Q B.length listed a w
 | [],listed,a,w,hB,h=>⟨by simpa [lineOK] using hB,h⟩
 |i::is,listed,a,w,hB,h=>by
  simp only [lineOK,Bool.and_eq_true,beq_iff_eq] at hB
  obtain ⟨⟨hr,ho⟩,hB'⟩:=hB
  obtain ⟨o,ho⟩:=Option.isSome_iff_exists.1 ho
  refine wpAny_all hr (by simp) fun j hj=> ?_
  obtain rfl:j=i:=by simpa using hj
  simp only [pickOps,ho] at h
  unfold wpOp
  simp only [ho]
  unfold wpList at h
  have step: ∀a' w',wpList P ops Q (pickOps ops is) a' w'→wpAny P .any ops Q is.length (listed.setIfInBounds j true) a' w':=fun a' w' h'=>lineOK_sound is _ a' w' hB' h'
  split
  ·rename_i hw
   rw [if_pos hw] at h
   exact h.imp (Oper.wp_mono step) id
  ·rename_i hw
   rw [if_neg hw] at h
   exact step _ _ h
theorem waits_spec {i j:Nat} {oj:Oper} (hj:ops[j]? =some oj) (h:waits ops j i=true): ∃e∈oj.after,Region.binds .any e=true∧e.on=i:=by
 simp only [waits,hj] at h
 obtain ⟨k,hk,hb,heq⟩: ∃(k:Nat),∃h:k<oj.after.size,Region.binds .any oj.after[k]=true∧oj.after[k].on=i:=by simpa using h
 exact ⟨oj.after[k],Array.getElem_mem hk,hb,heq⟩
theorem keepS_listAll {F:List Nat}: ∀(ql:List Nat) (listed:Array Bool),(∀i∈ql,i∉F)→(keepS F (listAll ql listed)↔keepS F listed)
 | [],_,_=>Iff.rfl
 |i::is,listed,h=>(keepS_listAll is _ (fun k hk=>h k (List.mem_cons_of_mem _ hk))).trans (keepS_set (h i (List.mem_cons_self ..)))
theorem quietOK_sound {A:List Nat} {F:Bool→List Nat} {T:World→Prop} (hs:Region.noSelect ops=true) (hQ: ∀c a d v w,Q (.panic c) (a.put d v) w→Q (.panic c) a w)
 (hB: ∀i∈A,∀j oj,ops[j]? =some oj→j∉A→∃e∈oj.after,Region.binds .any e=true∧e.on=i) {K:Act→Prop} {w:World} (hT:T w) (n:Nat):
 ∀(ql:List Nat) (listed:Array Bool) (a:Act),(∀i∈ql,i∈A∧∀c,i∉F c)→
  ((∀w,T w)∨∃c,(∀w,S c w→T w)∧keepS (F c) listed∧∀i∈ql,∀f∈F c,∀oj,ops[f]? =some oj→∃e∈oj.after,Region.binds .any e=true∧e.on=i)→(∀c,keepS (F c) listed→S c w)→
  quietOK ops ql listed=true→wpQuiet P ops T K (pickOps ops ql) a→
  (∀a',K a'→wpAnyE P ops Q S A F n (listAll ql listed) a' w)→wpAnyE P ops Q S A F (n+ql.length) listed a w
 | [],listed,a,_,_,_,_,h,hk=>hk a h
 |i::is,listed,a,hin,hF,hS,hq,h,hk=>by
  simp only [quietOK,takeOK,Bool.and_eq_true] at hq
  obtain ⟨⟨⟨hr,hf⟩,hp⟩,hq'⟩:=hq
  cases ho:ops[i]? with
  |none=>simp [ho] at hp
  |some o=>
   simp only [ho,Option.map_some,Option.getD_some] at hp
   simp only [pickOps,ho] at h
   obtain ⟨hiA,hiF⟩:=hin i (List.mem_cons_self ..)
   have go: ∀v,YieldsIf P ops T o v a→wpQuiet P ops T K (pickOps ops is) (a.put o.dst v)→wpAnyE P ops Q S A F (n+(is.length+1)) listed a w:=fun v hy h'=>by
    refine wpAnyE_first ho hiA hiF (Region.noSelect_spec hs) (fun c a w=>hQ c a _ v w) (fun j oj hj hjA=>hB i hiA j oj hj hjA) (n+is.length) listed a w
     (hF.imp id fun ⟨c,h1,h2,h3⟩=>⟨c,h1,h2,h3 i (List.mem_cons_self ..)⟩) (Region.free_spec ho hf) (by simpa using hr) hy hT hS ?_
    exact quietOK_sound hs hQ hB hT n is _ _ (fun k hk=>hin k (List.mem_cons_of_mem _ hk))
     (hF.imp id fun ⟨c,h1,h2,h3⟩=>⟨c,h1,(keepS_set (hiF c)).2 h2,fun k hk=>h3 k (List.mem_cons_of_mem _ hk)⟩) (fun c hk=>hS c ((keepS_set (hiF c)).1 hk)) hq' h' hk
   unfold wpQuiet at h
   split at h
   ·rename_i hw
    obtain ⟨v,hy,hK⟩:=yieldsIf_of_quiet hp hw h
    exact go v hy hK
   ·rename_i hw
    exact go undef (.inr ⟨by simpa using hw,rfl⟩) h
theorem Oper.wp_then {o:Oper} {a:Act} {w:World} {K N:Act→World→Prop} (hh:o.wp P a w K (Exit.then N Q)):o.wp P a w K Q:=by
 unfold Oper.wp at*
 generalize (execOp a.eval o).run P w=r at*
 cases r with
 |ok n w'=>
  cases n<;>simp only [Oper.upon] at hh⊢<;>first|exact hh|exact Calls.mono hh (fun e w'' he=>by cases e<;>exact he)
 |halt x w'=>cases x<;>simp only [Oper.upon] at hh⊢<;>exact hh
theorem eff_sound {K K':Act→World→Prop} {i:Nat} {o:Oper} (ho:ops[i]? =some o) {a:Act} {w:World} (step: ∀a w,K a w→K' a w)
 (h:wpList P ops (Exit.then K Q) (pickOps ops [i]) a w):wpOp P ops Q i K' a w:=by
 simp only [pickOps,ho] at h
 unfold wpOp
 simp only [ho]
 unfold wpList at h
 split
 ·rename_i hw
  rw [if_pos hw] at h
  rcases h with h|h
  ·exact .inl (Oper.wp_mono step (Oper.wp_then h))
  ·exact .inr h
 ·rename_i hw
  rw [if_neg hw] at h
  exact step _ _ h
theorem bothB {p:Bool→Prop} (h0:p false) (h1:p true): ∀c,p c
 |false=>h0
 |true=>h1
theorem not_keep {F:List Nat} {listed:Array Bool} {i:Nat} (hF:i∈F) (hun:listed.getD i true=false): ¬keepS F (listed.setIfInBounds i true):=fun hk=>by
 have h1:=hk i hF
 have hlt:=getD_lt_of_false hun
 simp [hlt] at h1
theorem plan_sound {A:List Nat} {F:Bool→List Nat} (hs:Region.noSelect ops=true) (hQ: ∀c a d v w,Q (.panic c) (a.put d v) w→Q (.panic c) a w)
 (hB: ∀i∈A,∀j oj,ops[j]? =some oj→j∉A→∃e∈oj.after,Region.binds .any e=true∧e.on=i):
 ∀(p:Plan) (listed:Array Bool) (a:Act) (w:World),(∀c,keepS (F c) listed→S c w)→p.ok ops A F listed=true→wpPlan P ops S Q p a w→wpAnyE P ops Q S A F p.size listed a w
 | .line B,listed,a,w,hS,hok,h=>by
   simp only [Plan.ok,Bool.and_eq_true] at hok
   obtain ⟨hall,hl⟩:=hok
   have hany:=lineOK_sound B _ a w hl h
   simp only [Plan.size]
   cases hn:B.length with
   |zero=>rw [hn] at hany;exact hany
   |succ n=>
    rw [hn] at hany
    unfold wpAnyE
    rw [if_pos hall]
    exact hany
 | .q ql p,listed,a,w,hS,hok,h=>by
   simp only [Plan.ok,Bool.and_eq_true,List.all_eq_true,Bool.not_eq_true',List.contains_iff_mem] at hok
   obtain ⟨⟨hq,hin⟩,hp⟩:=hok
   have hin': ∀i∈ql,i∈A∧∀c,i∉F c:=fun i hi=>⟨(hin i hi).1.1,bothB (by simpa using (hin i hi).1.2) (by simpa using (hin i hi).2)⟩
   simp only [Plan.size,Nat.add_comm ql.length]
   refine quietOK_sound (T:=fun _=>True) hs hQ hB trivial p.size ql listed a hin' (.inl fun _=>trivial) hS hq h fun a' h'=> ?_
   exact plan_sound hs hQ hB p _ a' w (fun c hk=>hS c ((keepS_listAll ql listed (fun i hi=>(hin' i hi).2 c)).1 hk)) hp h'
 | .h c ql p,listed,a,w,hS,hok,h=>by
   simp only [Plan.ok,Bool.and_eq_true,List.all_eq_true,Bool.not_eq_true',List.contains_iff_mem] at hok
   obtain ⟨⟨⟨hq,hin⟩,hkF⟩,hp⟩:=hok
   have hin': ∀i∈ql,i∈A∧∀c,i∉F c:=fun i hi=>⟨(hin i hi).1.1.1,bothB (by simpa using (hin i hi).1.1.2) (by simpa using (hin i hi).1.2)⟩
   have hk:keepS (F c) listed:=fun f hf=>hkF f hf
   simp only [Plan.size,Nat.add_comm ql.length]
   refine quietOK_sound (T:=S c) hs hQ hB (hS c hk) p.size ql listed a hin' (.inr ⟨c,fun _ h=>h,hk,fun i hi f hf oj hoj=>waits_spec hoj ((hin i hi).2 f hf)⟩) hS hq h fun a' h'=> ?_
   exact plan_sound hs hQ hB p _ a' w (fun c hk=>hS c ((keepS_listAll ql listed (fun i hi=>(hin' i hi).2 c)).1 hk)) hp h'
 | .e i k0 k1 p,listed,a,w,hS,hok,h=>by
   simp only [Plan.ok,Bool.and_eq_true,beq_iff_eq,Bool.or_eq_true,List.contains_iff_mem] at hok
   obtain ⟨⟨⟨⟨⟨hr,hA⟩,hF0⟩,hF1⟩,ho⟩,hp⟩:=hok
   obtain ⟨o,ho⟩:=Option.isSome_iff_exists.1 ho
   have hun:listed.getD i true=false:=((mem_ready (md:= .any)).1 (by rw [hr];simp:i∈Region.ready .any ops listed)).1
   simp only [Plan.size]
   unfold wpAnyE
   rw [if_neg (not_all hA hun)]
   refine ⟨fun h0=>(by rw [hr] at h0;cases h0),fun j hj=> ?_⟩
   obtain rfl:j=i:=by rw [hr] at hj;simpa using hj
   refine eff_sound ho (fun a' w' h'=> ?_) h
   obtain ⟨h0,h1,h2⟩:=keeps_out h'
   have hS': ∀c,keepS (F c) (listed.setIfInBounds j true)→S c w':=fun c hk=>by
    cases c with
    |false=>exact h0 (hF0.resolve_right fun hf=>not_keep hf hun hk)
    |true=>exact h1 (hF1.resolve_right fun hf=>not_keep hf hun hk)
   exact ⟨hS',plan_sound hs hQ hB p _ a' w' hS' hp h2⟩
 | .br i p k r,listed,a,w,hS,hok,h=>by
   simp only [Plan.ok,Bool.and_eq_true,beq_iff_eq,List.contains_iff_mem] at hok
   obtain ⟨⟨⟨⟨⟨⟨⟨hr,hA⟩,hA2⟩,ho⟩,ho2⟩,hp⟩,hp2⟩,hsz⟩:=hok
   obtain ⟨o,ho⟩:=Option.isSome_iff_exists.1 ho
   obtain ⟨o2,ho2⟩:=Option.isSome_iff_exists.1 ho2
   have hun:listed.getD i true=false:=((mem_ready (md:= .any)).1 (by rw [hr];simp:i∈Region.ready .any ops listed)).1
   simp only [Plan.size]
   unfold wpAnyE
   rw [if_neg (not_all hA hun)]
   refine ⟨fun h0=>(by rw [hr] at h0;cases h0),fun j hj=> ?_⟩
   rw [hr] at hj
   have hj':j=i∨j=k:=by simpa using hj
   have both: ∀{w':World},S false w'∧S true w'→∀(l:Array Bool) c,keepS (F c) l→S c w':=fun h _ c _=>bothB (p:=fun c=>S c _) h.1 h.2 c
   rcases hj' with rfl|rfl
   ·exact eff_sound ho (fun a' w' h'=>⟨both h'.1 _,plan_sound hs hQ hB p _ a' w' (both h'.1 _) hp h'.2⟩) h.1
   ·rw [hsz]
    exact eff_sound ho2 (fun a' w' h'=>⟨both h'.1 _,plan_sound hs hQ hB r _ a' w' (both h'.1 _) hp2 h'.2⟩) h.2
theorem wp_region_plan {id:Nat} {a:Act} {w:World} (S:Bool→World→Prop) (p:Plan) (hm:P.follows .mixedOrders=true) (hok:planOK ops p=true)
 (hQ: ∀c a d v w,Q (.panic c) (a.put d v) w→Q (.panic c) a w) (hS: ∀c,S c w.drew)
 (h:wpPlan P ops S Q p a w.drew):(Code.region id ops true).wp P Q a w:=by
 simp only [planOK,Bool.and_eq_true,beq_iff_eq] at hok
 obtain ⟨⟨⟨hs,hw⟩,hlen⟩,hp⟩:=hok
 refine wp_region_any hm (wpAny_of_E (S:=S) (A:=p.all) (F:=p.frees) _ _ _ _ ?_)
 rw [←hlen]
 rw [←hlen] at hp
 refine plan_sound hs hQ (fun i hi j oj hj hjA=> ?_) p _ a w.drew (fun c _=>hS c) hp h
 have hlt:j<ops.size:=(Array.getElem?_eq_some_iff.1 hj).1
 have h1:=List.all_eq_true.1 hw j (List.mem_range.2 hlt)
 simp only [Bool.or_eq_true,List.contains_iff_mem] at h1
 exact waits_spec hj (List.all_eq_true.1 (h1.resolve_left hjA) i hi)
theorem quiet_held {C:World→Prop} {K:Act→Prop} {o:Oper} {rest:List Oper} {a:Act} (hw:Region.wanted o (yielded ops a.tmps)=true)
 (h: ∃v,(∀w,C w→(execOp a.eval o).run P w= .ok (.value v) w)∧wpQuiet P ops C K rest (a.put o.dst v)):wpQuiet P ops C K (o::rest) a:=by
 obtain ⟨v,h,hk⟩:=h
 unfold wpQuiet
 rw [if_pos hw]
 exact ⟨v,fun w hC=>by unfold Oper.quietAt;rw [h w hC];exact ⟨rfl,rfl⟩,hk⟩
end
end Go.Ux
