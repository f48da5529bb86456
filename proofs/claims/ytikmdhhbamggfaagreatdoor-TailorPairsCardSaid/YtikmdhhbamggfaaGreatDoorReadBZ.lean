/- A part of the proof that the statement holds for every input that it names. No other condition. -/
import Derived.Test.YtikmdhhbamggfaaGreatDoorUxMemAZ
import Derived.Test.YtikmdhhbamggfaaGreatDoorReadAZ
import Derived.Test.YtikmdhhbamggfaaGreatDoorCollAZ
set_option linter.unusedVariables false
set_option linter.unusedSimpArgs false
namespace Go.Proofs.YtikmdhhbamggfaaGreatDoor
open Go.RowKit
open Ux (Ent rootE rootT)
open Ux.Sign (cp raw signs)
def rcV (kd lv:Int) (sh bk:Bool) (u:Value):Value:= .agg #[.int .i64 kd,.int .i64 lv,.bool sh,.bool bk,u]
def lvN (lv:Int):Nat:=(bits .and .i64 lv 65535).toNat % 3+1
theorem lvN_le (lv:Int):1≤lvN lv∧lvN lv≤3:=by unfold lvN;omega
theorem and16 (a:Int): ∃m:Nat,bits .and .i64 a 65535=(m:Int)∧m<65536:=by
 have h:(BitVec.ofInt 64 a&&&BitVec.ofInt 64 65535).toNat<65536:=by
  rw [BitVec.toNat_and,show (BitVec.ofInt 64 65535).toNat=2^16-1 from rfl,Nat.and_two_pow_sub_one_eq_mod]
  exact Nat.mod_lt _ (by decide)
 refine ⟨(BitVec.ofInt 64 a&&&BitVec.ofInt 64 65535).toNat,?_,h⟩
 show IntKind.i64.wrap ((BitVec.ofInt 64 a&&&BitVec.ofInt 64 (65535:Int)).toNat:Nat)=_
 rw [IntKind.wrap_i64]
 omega
def set5 (w:World) (q:Nat) (v0 v1 v2 v3 v4:Value):World:=((((w.setCell ⟨q,0,none⟩ v0).setCell ⟨q,1,none⟩ v1).setCell ⟨q,2,none⟩ v2).setCell ⟨q,3,none⟩ v3).setCell ⟨q,4,none⟩ v4
theorem set5_row {w:World} {q:Nat} {c0 c1 c2 c3 c4:Value} {t:TypeId} (h:w.heap[q]? =some (.cells #[c0,c1,c2,c3,c4] t (0,0))) (v0 v1 v2 v3 v4:Value):(set5 w q v0 v1 v2 v3 v4).heap[q]? =some (.cells #[v0,v1,v2,v3,v4] t (0,0)):=
 Ux.setCell_row (Ux.setCell_row (Ux.setCell_row (Ux.setCell_row (Ux.setCell_row h 0 v0) 1 v1) 2 v2) 3 v3) 4 v4
theorem set5_touch (w:World) (q:Nat) (v0 v1 v2 v3 v4:Value):Ux.Touch (fun b=>b=q) w (set5 w q v0 v1 v2 v3 v4):=
 (((((Ux.Touch.refl (fun b=>b=q) w).setCell (p:=⟨q,0,none⟩) (fun _=>rfl) _).setCell (p:=⟨q,1,none⟩) (fun _=>rfl) _).setCell (p:=⟨q,2,none⟩) (fun _=>rfl) _).setCell (p:=⟨q,3,none⟩) (fun _=>rfl) _).setCell (p:=⟨q,4,none⟩) (fun _=>rfl) _
theorem there_row {w:World} {q:Nat} {cs:Array Value} {t:TypeId} (h:w.heap[q]? =some (.cells cs t (0,0))):w.there q 0 cs.size:=fun j hj=>by
 rw [Nat.zero_add]
 refine ⟨?_,Ux.frozen_row h j⟩
 rw [cell_of_row w q j _ _ (0,0) h,Array.getElem?_eq_getElem hj]
 rfl
end Go.Proofs.YtikmdhhbamggfaaGreatDoor
