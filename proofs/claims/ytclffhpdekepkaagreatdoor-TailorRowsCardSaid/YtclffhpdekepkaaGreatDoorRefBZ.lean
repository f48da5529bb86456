/- A part of the proof that the statement holds for every input that it names. No other condition. -/
import Derived.Test.YtclffhpdekepkaaGreatDoorTableBZ
import Derived.Test.YtclffhpdekepkaaGreatDoorRefAZ
set_option linter.unusedVariables false
set_option linter.unusedSimpArgs false
namespace Go.Proofs.YtclffhpdekepkaaGreatDoor
open Go.RowKit
open Ux (Row Ent sv ev findE putE setE okE okT SameE SortedE)
open Ux.Sign (cp raw)
theorem sv_nat (t:List Nat):(sv t).map Int.toNat=t:=by
 unfold sv
 rw [List.map_map]
 exact (List.map_congr_left fun _ _=>rfl).trans (List.map_id t)
def codeE (T:List Ent) (s:List Int) (l:List Nat):Nat:=if keyOk s=false∨8<l.length then 1 else if (findE T (s.map Int.toNat)).isSome=false∧500≤T.length then 65 else 0
def stepU (T E:List Ent) (s:List Int) (l:List Nat):List Ent:=if codeE T s l=0 then setE E (s.map Int.toNat) l else E
def stepT (T:List Ent) (s:List Int) (l:List Nat):List Ent:=if codeE T s l=0 then putE T (s.map Int.toNat) l else T
theorem full_iff {E T:List Ent} (hS:SameE E T) (hok:okT E) (hE:E.length≤500) (t l:List Nat):((findE T t).isSome=false∧500≤T.length)↔500<(setE E t l).length:=by
 rw [←Ux.findE_perm hok.1 hS.1,Ux.setE_len,←hS.1.length_eq]
 by_cases h:t∈E.map (·.1)
 ·rw [if_pos h]
  obtain ⟨e,he,rfl⟩:=List.mem_map.1 h
  rw [Ux.findE_mem hok.1 he]
  simp
  omega
 ·rw [if_neg h,Ux.findE_none' h]
  simp
  omega
theorem code0 {T:List Ent} {s:List Int} {l:List Nat} (h:codeE T s l=0): ∃t,s=sv t∧(1≤t.length∧t.length≤3∧∀c∈t,cp c∨raw c)∧l.length≤8∧¬((findE T t).isSome=false∧500≤T.length):=by
 unfold codeE at h
 split at h
 ·cases h
 ·rename_i h1
  split at h
  ·cases h
  ·rename_i h2
   have hk:keyOk s=true:=by
    cases hk:keyOk s with
    |true=>rfl
    |false=>exact absurd (.inl hk) h1
   obtain ⟨t,rfl,a,b,c⟩:=keyOk_sv hk
   rw [sv_nat] at h2
   exact ⟨t,rfl,⟨a,b,c⟩,by omega,h2⟩
theorem step_ok {E T:List Ent} (hS:SameE E T) (hok:okT E) (hsig: ∀e∈E,∀c∈e.1,cp c∨raw c) (hE:E.length≤500) (s:List Int) (l:List Nat) (hlt: ∀x∈l,x<4294967296):
 SameE (stepU T E s l) (stepT T s l)∧okT (stepU T E s l)∧(∀e∈stepU T E s l,∀c∈e.1,cp c∨raw c)∧(stepU T E s l).length≤500:=by
 unfold stepU stepT
 by_cases h:codeE T s l=0
 ·rw [if_pos h,if_pos h]
  obtain ⟨t,rfl,⟨a,b,c⟩,h8,hf⟩:=code0 h
  rw [sv_nat]
  have hn:okE (t,l):=⟨⟨a,b,fun x hx=>by have:=c x hx;unfold cp raw at this;omega⟩,h8,hlt⟩
  refine ⟨hS.put hok hn,Ux.setE_ok hok hn,fun e he=> ?_,?_⟩
  ·rcases (Ux.setE_mem e).1 he with rfl|⟨h1,_⟩
   ·exact c
   ·exact hsig e h1
  ·rw [full_iff hS hok hE t l] at hf
   omega
 ·rw [if_neg h,if_neg h]
  exact ⟨hS,hok,hsig,hE⟩
theorem twithC_ (B mb:Nat) (E T:List Ent) (s:List Int) (l:List Nat) (vs vl:Value) (w:World) (hT:TableAt w B mb E) (hS:SameE E T) (hs:IView w vs s) (h63:s.length≤9223372036854775807) (hl:Row w 0 47 vl (ev l)) (hlt: ∀x∈l,x<4294967296) (h12:l.length≤12) (hE:E.length≤500):
 Calls Tryz.prog 82 #[.pointer (some ⟨B,0,none⟩),vs,vl] w fun e w'=> ∃P,e= .returned (.tuple #[.pointer P,.int .i64 (codeE T s l:Nat)])∧(codeE T s l=0∧(∃B' mb',P=some ⟨B',0,none⟩∧TableAt w' B' mb' (stepU T E s l))∨codeE T s l≠0∧P=none)∧Ux.Touch (fun _=>False) w w':=by
 have hok:=hT.1.1
 obtain ⟨a,c,hv,_⟩:=hl.is
 rw [Ux.ev_length] at hv
 by_cases hb:keyOk s=false∨8<l.length
 ·have h1:codeE T s l=1:=by unfold codeE;rw [if_pos hb]
  rw [h1]
  subst hv
  refine (twithNo_ _ s vs a l.length c w hs h63 (by omega) hb).mono ?_
  rintro e w' ⟨rfl,T1⟩
  exact ⟨none,rfl,.inr ⟨by decide,rfl⟩,T1⟩
 ·have hk:keyOk s=true:=by
   cases hk:keyOk s with
   |true=>rfl
   |false=>exact absurd (.inl hk) hb
  have h8:l.length≤8:=by omega
  obtain ⟨t,rfl,h1,h3,hc⟩:=keyOk_sv hk
  have hn:okE (t,l):=⟨⟨h1,h3,fun x hx=>by have:=hc x hx;unfold cp raw at this;omega⟩,h8,hlt⟩
  have hcode:codeE T (sv t) l=if 500<(setE E t l).length then 65 else 0:=by
   unfold codeE
   rw [if_neg hb,sv_nat]
   by_cases hf:(findE T t).isSome=false∧500≤T.length
   ·rw [if_pos hf,if_pos ((full_iff hS hok hE t l).1 hf)]
   ·rw [if_neg hf,if_neg fun h=>hf ((full_iff hS hok hE t l).2 h)]
  refine (twith_ B mb E t l vs vl w hT hs.s hl hn hc hE).mono ?_
  rintro e w' ⟨hR,T1⟩
  unfold WithR at hR
  by_cases hf:500<(setE E t l).length
  ·rw [if_pos hf] at hR hcode
   rw [hcode]
   exact ⟨none,hR,.inr ⟨by decide,rfl⟩,T1⟩
  ·rw [if_neg hf] at hR hcode
   obtain ⟨B',mb',he,_,hT'⟩:=hR
   rw [hcode]
   refine ⟨_,he,.inl ⟨rfl,B',mb',rfl,?_⟩,T1⟩
   unfold stepU
   rw [if_pos hcode,sv_nat]
   exact hT'
end Go.Proofs.YtclffhpdekepkaaGreatDoor
