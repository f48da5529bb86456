/- A part of the proof that the statement holds for every input that it names. No other condition. -/
import Derived.Test.YtfccjaboicpohaaGreatDoorQAY
set_option linter.unusedVariables false
set_option linter.unusedSimpArgs false
namespace Go.Proofs.YtfccjaboicpohaaGreatDoor
open Go.RowKit
open Ux (Ent sv findE putE okE okT okS SameE SortedE elemsE rootT stepA raise mapE lastW fullT wF keepW wt8 eP eS eT incW cmpL cmpI longE atE ofE)
open Ux.Sign (cp raw)
def sgnK (c:Nat):Bool:=(decide (110≤c)&&decide (c≤122))||(decide (48≤c)&&decide (c≤57))||(decide (78≤c)&&decide (c≤90))
theorem sgnK_lt {c:Nat} (h:sgnK c=true):c<123:=by
 unfold sgnK at h
 simp at h
 omega
def gK (T:List Ent) (c:Nat):Nat:=((findE T [c]).getD []).headD 0
structure KeepT (T:List Ent):Prop where
 one: ∀e∈T,∀c s,e.1=c::s→sgnK c=true→s= []
 each: ∀c,sgnK c=true→findE T [c]=some [gK T c]∧gK T c<4294967296∧∀L,L=1∨L=2∨L=3→wt8 L (gK T c)≠0
 ord: ∀c d,sgnK c=true→sgnK d=true→∀L,L=1∨L=2∨L=3→(wt8 L (gK T c)<wt8 L (gK T d)↔wt8 L (gK (rootT 132) c)<wt8 L (gK (rootT 132) d))
theorem keep_each: ∀c,c<123→sgnK c=true→findE (rootT 132) [c]=some [gK (rootT 132) c]∧gK (rootT 132) c<4294967296∧wt8 1 (gK (rootT 132) c)≠0∧wt8 2 (gK (rootT 132) c)≠0∧wt8 3 (gK (rootT 132) c)≠0:=by decide+kernel
theorem KeepT.root:KeepT (rootT 132) where
 one e he c s hs _:=by
  have:=Ux.rootT_one e he
  rw [hs] at this
  simp at this
  exact this
 each c hc:=by
  obtain ⟨h1,h2,h3,h4,h5⟩:=keep_each c (sgnK_lt hc) hc
  exact ⟨h1,h2,fun L hL=>by rcases hL with rfl|rfl|rfl;exact h3;exact h4;exact h5⟩
 ord _ _ _ _ _ _:=Iff.rfl
theorem KeepT.put {T:List Ent} (h:KeepT T) (hs:SortedE T) (ho:okT T) {s l:List Nat} (hn:okE (s,l)) (hk: ∀c,s.head? =some c→sgnK c=false):KeepT (putE T s l):=by
 have hf: ∀c,sgnK c=true→findE (putE T s l) [c]=findE T [c]:=fun c hc=>by
  rw [Ux.findE_put hs ho hn,if_neg ?_]
  rintro rfl
  rw [hk c rfl] at hc
  cases hc
 have hg: ∀c,sgnK c=true→gK (putE T s l) c=gK T c:=fun c hc=>by
  unfold gK
  rw [hf c hc]
 refine ⟨fun e he c t ht hc=> ?_,fun c hc=> ?_,fun c d hc hd L hL=> ?_⟩
 ·rcases (Ux.putE_mem hs e).1 he with rfl|⟨he,_⟩
  ·have ht:s=c::t:=ht
   rw [hk c (by rw [ht];rfl)] at hc
   cases hc
  ·exact h.one e he c t ht hc
 ·rw [hf c hc,hg c hc]
  exact h.each c hc
 ·rw [hg c hc,hg d hd]
  exact h.ord c d hc hd L hL
end Go.Proofs.YtfccjaboicpohaaGreatDoor
