/- A part of the proof that the statement holds for every input that it names. No other condition. -/
import Derived.Test.YtikmdhhbamggfaaGreatDoorLikeBZ
set_option linter.unusedVariables false
set_option linter.unusedSimpArgs false
namespace Go.Proofs.YtikmdhhbamggfaaGreatDoor
open Go.RowKit
open Ux.Sign (signs)
open Ux.Like (pat elt)
theorem elt_range {c:Nat} (h:c<1114368):elt c= -1∨elt c= -2∨(0≤elt c∧elt c<1114368):=by
 rw [eltI]
 split
 ·exact .inl rfl
 ·split
  ·exact .inr (.inl rfl)
  ·exact .inr (.inr (by omega))
theorem pat_bound (e:Option Nat): ∀(n:Nat) (l:List Nat),l.length≤n→(∀c∈l,c<1114368)→∀P,pat e l=some P→P.length≤l.length∧∀x∈P,x= -1∨x= -2∨(0≤x∧x<1114368)
 |_,[],_,_,P,h=>by
  cases h
  exact ⟨Nat.le_refl _,fun _ hx=>by cases hx⟩
 |0,c::l,hn,_,_,_=>by simp at hn
 |n+1,c::l,hn,hl,P,h=>by
  rw [Ux.Like.pat_cons] at h
  simp only [List.length_cons] at hn
  by_cases he:e=some c
  ·rw [if_pos he] at h
   cases l with
   |nil=>cases h
   |cons d l=>
    dsimp only at h
    simp only [List.length_cons] at hn
    cases hp:pat e l with
    |none=>rw [hp] at h;cases h
    |some Q=>
     rw [hp] at h
     cases h
     obtain ⟨h1,h2⟩:=pat_bound e n l (by omega) (fun x hx=>hl x (by simp [hx])) Q hp
     refine ⟨by simp only [List.length_cons];omega,fun x hx=> ?_⟩
     rcases List.mem_cons.1 hx with rfl|hx
     ·have:=hl d (by simp)
      exact .inr (.inr (by omega))
     ·exact h2 x hx
  ·rw [if_neg he] at h
   cases hp:pat e l with
   |none=>rw [hp] at h;cases h
   |some Q=>
    rw [hp] at h
    cases h
    obtain ⟨h1,h2⟩:=pat_bound e n l (by omega) (fun x hx=>hl x (by simp [hx])) Q hp
    refine ⟨by simp only [List.length_cons];omega,fun x hx=> ?_⟩
    rcases List.mem_cons.1 hx with rfl|hx
    ·exact elt_range (hl c (by simp))
    ·exact h2 x hx
end Go.Proofs.YtikmdhhbamggfaaGreatDoor
