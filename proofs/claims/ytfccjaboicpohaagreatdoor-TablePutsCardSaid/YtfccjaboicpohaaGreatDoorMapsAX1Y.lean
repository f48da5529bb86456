/- A part of the proof that the statement holds for every input that it names. No other condition. -/
import Derived.Test.YtfccjaboicpohaaGreatDoorMapsAY
import Derived.Test.YtfccjaboicpohaaGreatDoorUxTabAX1Y
import Derived.Test.YtfccjaboicpohaaGreatDoorTableAX1Y
set_option linter.unusedVariables false
set_option linter.unusedSimpArgs false
namespace Go.Proofs.YtfccjaboicpohaaGreatDoor
open Go.RowKit
open Ux (eP eS eT eV)
theorem of_bits (x:Nat) (hx:x<4294967296):bits .and .u32 ((x/256:Nat):Int) 255=(eS x:Nat)∧bits .and .u32 ((x/2:Nat):Int) 127=(eT x:Nat)∧bits .and .u32 (x:Int) 1=((x % 2:Nat):Int):=by
 have h: ∀a k:Nat,a<4294967296→2^k≤4294967296→bits .and .u32 (a:Int) ((2^k-1:Nat):Int)=(a % 2^k:Nat):=fun a k ha hk=>by
  show IntKind.u32.wrap ((BitVec.ofInt 32 (a:Int)&&&BitVec.ofInt 32 ((2^k-1:Nat):Int)).toNat:Nat)=_
  have e1:(BitVec.ofInt 32 (a:Int)).toNat=a:=by rw [BitVec.toNat_ofInt];omega
  have e2:(BitVec.ofInt 32 ((2^k-1:Nat):Int)).toNat=2^k-1:=by rw [BitVec.toNat_ofInt];omega
  rw [BitVec.toNat_and,e1,e2,Nat.and_two_pow_sub_one_eq_mod,IntKind.wrap_u32]
  have:=Nat.mod_le a (2^k)
  omega
 refine ⟨?_,?_,?_⟩
 ·have:=h (x/256) 8 (by omega) (by decide)
  exact this
 ·have:=h (x/2) 7 (by omega) (by decide)
  exact this
 ·have:=h x 1 hx (by decide)
  exact this
set_option maxHeartbeats 4000000 in
set_option maxRecDepth 100000 in
theorem rof_ (x:Nat) (hx:x<4294967296) (w:World):Calls Tryz.prog 60 #[.int .u32 (x:Int)] w fun e w'=>e= .returned (rE x)∧Ux.Touch (fun _=>False) w w':=by
 obtain ⟨b1,b2,b3⟩:=of_bits x hx
 have h8:((x/256:Nat):Int)=(x:Int)/256:=rfl
 have h2:((x/2:Nat):Int)=(x:Int)/2:=rfl
 have h1:((x % 2:Nat):Int)=(x:Int) % 2:=rfl
 rw [h8] at b1
 rw [h2] at b2
 rw [h1] at b3
 clear h8 h2 h1
 have HX:=Lib.hid hx
 have x1:(x:Int)<4294967296:=by omega
 have s1:(eS x:Int)<256:=by unfold eS;omega
 have t1:(eT x:Int)<128:=by unfold eT;omega
 have s0:(0:Int)≤(eS x:Int):=by omega
 have t0:(0:Int)≤(eT x:Int):=by omega
 have hp:(eP x:Int)=(x:Int)/65536:=by unfold eP;rfl
 have hv:eV x=((x:Int) % 2==1):=by unfold eV;rw [Bool.eq_iff_iff];simp;omega
 have hE:rE x= .agg #[.int .i64 ((x:Int)/65536),.int .i64 (eS x:Nat),.int .i64 (eT x:Nat),.bool ((x:Int) % 2==1)]:=by unfold rE;rw [hp,hv]
 obtain ⟨s,hs⟩: ∃s,eS x=s:=⟨_,rfl⟩
 obtain ⟨t,ht⟩: ∃t,eT x=t:=⟨_,rfl⟩
 rw [hs] at b1 s1 s0 hE
 rw [ht] at b2 t1 t0 hE
 rw [hE]
 clear hE hp hv hs ht hx
 go_enter Tryz.func60,Tryz.ntmps60
 go_wp2
 go_returns
 exact ⟨rfl,(Ux.Touch.refl _ w).alloc _⟩
end Go.Proofs.YtfccjaboicpohaaGreatDoor
