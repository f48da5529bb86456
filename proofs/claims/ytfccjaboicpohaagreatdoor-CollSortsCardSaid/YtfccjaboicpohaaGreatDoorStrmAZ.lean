/- A part of the proof that the statement holds for every input that it names. No other condition. -/
import Derived.Test.YtfccjaboicpohaaGreatDoorUxKeyAZ
import Derived.RangeFuncKeeps
import Derived.RangeFuncCalls
import Derived.OwnWalkIn
import Derived.TacticsInMore
import Derived.LoopIn
import Derived.Shelf.Abstract
import Derived.Lib.OwnKind
import Derived.Test.YtfccjaboicpohaaGreatDoorCollAZ
import Derived.Test.YtfccjaboicpohaaGreatDoorReadAZ
set_option linter.unusedVariables false
set_option linter.unusedSimpArgs false
namespace Go.Proofs.YtfccjaboicpohaaGreatDoor
open Go.RowKit
open Ux (Row iv sv bv ev Ent)
def BoxS (W:World) (b2:Nat) (kd:Int) (s:ByteArray):Prop:= ∃x,W.heap[b2]? =some (.cells #[.string x] 9 (0,0))∧(x=s∨kd=2∧x=ftB s)
def ItS (b2:Nat) (kd:Int) (s:ByteArray) (W W':World):Prop:=Ux.Touch (fun b=>b=b2) W W'∧(BoxS W b2 kd s→BoxS W' b2 kd s)
def CrS (S b1 b2:Nat) (C:World→Nat→Prop):Prop:= ∀W b,C W b→(b<S∧b≠b1∧b≠b2)∨∃cs fz,W.heap[b]? =some (.cells cs 5 fz)
theorem CrS.not {S b1 b2:Nat} {C:World→Nat→Prop} (h:CrS S b1 b2 C) {W:World} {g:Nat} {cs:Array Value} {t:TypeId} {fz:Nat×Nat} (hg:W.heap[g]? =some (.cells cs t fz)) (ht:t≠5) (hs:g=b1∨g=b2∨S≤g): ¬C W g:=fun hc=>by
 rcases h W g hc with ⟨h1,h2,h3⟩|⟨cs',fz',h1⟩
 ·rcases hs with rfl|rfl|hs
  ·exact h2 rfl
  ·exact h3 rfl
  ·omega
 ·rw [hg] at h1
  cases h1
  exact ht rfl
end Go.Proofs.YtfccjaboicpohaaGreatDoor
namespace Go.Proofs.YtfccjaboicpohaaGreatDoor
open Go.RowKit
open Ux (Row iv sv bv ev Ent encW keyL wts)
theorem ok3 (LN:Nat) (h:1≤LN∧LN≤3) (p:Addr):okC 3 (LN:Int) (some p)=true:=by
 unfold okC
 simp
 omega
end Go.Proofs.YtfccjaboicpohaaGreatDoor
namespace Go.Proofs.YtfccjaboicpohaaGreatDoor
open Go.RowKit
open Ux (Row iv sv bv ev Ent keyL Grow)
attribute [local go_sem] Oper.semAt_some
def keyP (kd lv:Int) (sh bk:Bool) (tb:Option Addr) (E:List Ent) (s:ByteArray):ByteArray:=
 if okC kd lv tb=true then (if kd=3 then ⟨(keyL sh bk (elB E s) lv.toNat).toArray⟩ else if kd=2 then ftB s else s) else s
structure StrAt (W:World) (b1 b2:Nat) (kd lv:Int) (sh bk:Bool) (tb:Option Addr) (s:ByteArray):Prop where
 c:W.heap[b1]? =some (.cells #[.int .i64 kd,.int .i64 lv,.bool sh,.bool bk,.pointer tb] 66 (0,0))
 b:BoxS W b2 kd s
theorem StrAt.made (kd lv:Int) (sh bk:Bool) (tb:Option Addr) (s:ByteArray) (w:World):StrAt ((w.alloc (.cells #[.int .i64 kd,.int .i64 lv,.bool sh,.bool bk,.pointer tb] 66)).alloc (.cells #[.string s] 9)) w.heap.size (w.heap.size+1) kd lv sh bk tb s:=by
 refine ⟨((Ux.Touch.refl (fun _=>False) _).alloc _).heap (heap_alloc_new w _) (fun f=>f),s,?_,.inl rfl⟩
 have:=heap_alloc_new (w.alloc (.cells #[.int .i64 kd,.int .i64 lv,.bool sh,.bool bk,.pointer tb] 66)) (.cells #[.string s] 9)
 rwa [World.size_alloc] at this
def CCB (bt:Nat) (W:World) (b:Nat):Prop:=(b=bt∧∃cs fz,W.heap[b]? =some (.cells cs 160 fz))∨∃cs fz,W.heap[b]? =some (.cells cs 5 fz)
theorem CCB.cells {bt:Nat} (W:World) (b:Nat) (h:CCB bt W b): ∃cs t fz,W.heap[b]? =some (.cells cs t fz):=by
 rcases h with ⟨_,cs,fz,h⟩|⟨cs,fz,h⟩
 ·exact ⟨cs,_,fz,h⟩
 ·exact ⟨cs,_,fz,h⟩
theorem CCB.mono {bt:Nat} (W W':World) (b:Nat) (e:W.heap[b]? =W'.heap[b]?) (h:CCB bt W b):CCB bt W' b:=by
 unfold CCB at h⊢
 rw [←e]
 exact h
def KeyI (bt b2 S:Nat) (kd:Int) (s:ByteArray) (w4:World) (pre:List UInt8) (W:World):Prop:=
 ∃v,W.heap[bt]? =some (.cells #[v] 160 (0,0))∧Grow W S 5 v (bv pre)∧BoxS W b2 kd s∧Ux.Touch (fun b=>b=bt∨b=b2) w4 W
theorem KeyI.touchB {bt b2 S:Nat} {kd:Int} {s:ByteArray} {w4:World} {pre:List UInt8} {W W':World} (h:KeyI bt b2 S kd s w4 pre W) (T:ItS b2 kd s W W') (h1:b2≠bt) (h3:b2<S):KeyI bt b2 S kd s w4 pre W':=by
 obtain ⟨v,a1,a2,a3,a5⟩:=h
 exact ⟨v,T.1.heap a1 (fun e=>h1 e.symm),a2.touch T.1 (fun b hb e=>by omega),T.2 a3,a5.trans T.1 (fun b hb e=> .inr e)⟩
theorem KeyI.app {bt b2 S:Nat} {kd:Int} {s:ByteArray} {w4:World} {pre:List UInt8} {W:World} (h:KeyI bt b2 S kd s w4 pre W) (hS:S≤W.heap.size) (hbt:bt<S) (hb2:b2<S) (hne:b2≠bt) (x:UInt8) (hlen:pre.length≤1000000000) (h4:w4.heap.size≤S):
 ∃a c a' c' w2,W.cell? ⟨bt,0,none⟩=some (.slice a pre.length c)∧W.frozen? ⟨bt,0,none⟩=false∧(∀ty,(Builtin.append_ #[160,160] ty #[.slice a pre.length c,.slice (some ⟨W.heap.size,0,none⟩) 1 1]).run Tryz.prog (W.alloc (.cells #[.int .u8 (x.toNat:Int)] 5))= .ok (.slice a' (pre.length+1:Nat) c') w2)∧
  w2.cell? ⟨bt,0,none⟩=some (.slice a pre.length c)∧w2.frozen? ⟨bt,0,none⟩=false∧Ux.Touch (CCB bt W) W (w2.setCell ⟨bt,0,none⟩ (.slice a' (pre.length+1:Nat) c'))∧KeyI bt b2 S kd s w4 (pre++ [x]) (w2.setCell ⟨bt,0,none⟩ (.slice a' (pre.length+1:Nat) c')):=by
 obtain ⟨v,a1,a2,⟨y,a3,a4⟩,a5⟩:=h
 obtain ⟨r,w2,run2,hG2,t2⟩:=appB a2 1 [.int .u8 (x.toNat:Int)] rfl (by simp [Value.oneCell']) hS (by rw [Ux.bv_length];omega)
 have hv:=a2.row.is
 obtain ⟨a,c,rfl,_⟩:=hv
 have hG2':Grow w2 S 5 r (bv (pre++ [x])):=by rw [Ux.bv_append];exact hG2
 obtain ⟨a',c',rfl,_⟩:=hG2'.row.is
 have e1:(bv pre).length=pre.length:=Ux.bv_length _
 have e2:(bv (pre++ [x])).length=pre.length+1:=by rw [Ux.bv_length];simp
 rw [e1] at a1 a2 run2 t2
 rw [e2] at run2 hG2'
 have hnb: ¬(S≤bt∧(Value.slice a pre.length c).ownBlock=some bt):=fun h=>by omega
 have b1:=t2.heap a1 hnb
 have T5:Ux.Touch (CCB bt W) W (w2.setCell ⟨bt,0,none⟩ (.slice a' (pre.length+1:Nat) c')):=by
  have T3:Ux.Touch (CCB bt W) W w2:=t2.mono fun b _ hb=>by
   obtain ⟨cs,fz,hc⟩:=Go.Lib.ownsRow_kind a2.1 b hb.2
   exact .inr ⟨cs,fz,hc⟩
  exact T3.setCell (p:=⟨bt,0,none⟩) (fun _=> .inl ⟨rfl,_,_,a1⟩) _
 refine ⟨a,c,a',c',w2,?_,frozen_of_row W bt 0 _ _ a1,run2,?_,frozen_of_row w2 bt 0 _ _ b1,T5,?_⟩
 ·rw [cell_of_row W bt 0 _ _ (0,0) a1];rfl
 ·rw [cell_of_row w2 bt 0 _ _ (0,0) b1];rfl
 ·refine ⟨_,heap_setCell_same w2 bt 0 _ _ _ b1,hG2'.touch ((Ux.Touch.refl (fun b=>b=bt) w2).setCell (p:=⟨bt,0,none⟩) (fun _=>rfl) _) (fun b hb e=>by omega),⟨y,?_,a4⟩,?_⟩
  ·refine T5.heap a3 fun h=> ?_
   rcases h with ⟨h,_⟩|⟨cs,fz,h⟩
   ·exact hne h
   ·rw [a3] at h;cases h
  ·refine a5.trans ((t2.mono (fun b _ h=> .inl h):Ux.Touch (fun b=>(S≤b∧(Value.slice a pre.length c).ownBlock=some b)∨b=bt) W w2).setCell (p:=⟨bt,0,none⟩) (fun _=> .inr rfl) _) ?_
   intro b hb h
   rcases h with h|h
   ·omega
   ·exact .inl h
end Go.Proofs.YtfccjaboicpohaaGreatDoor
