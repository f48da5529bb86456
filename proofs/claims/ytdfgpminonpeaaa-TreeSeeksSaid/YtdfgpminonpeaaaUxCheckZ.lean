/- PART OF THE PROOF THAT TreeSeeksSaid HOLDS OF THE GIVEN PROGRAM, FOR EVERY INPUT THAT THE STATEMENT NAMES. No condition besides the statement's own. -/
import Derived.Test.YtdfgpminonpeaaaUxCur3Z
import Derived.Lib.Builder
/- What Check keeps on its way: whether a key was met, and the last one. -/
namespace Go.Ux
open Go Go.RowKit

/-- the state behind the keys of L -/
def after (st : Bool × ByteArray) (L : List Ent) : Bool × ByteArray := match L.getLast? with
  | none => st
  | some p => (true, p.1)

theorem after_nil (st : Bool × ByteArray) : after st [] = st := rfl
theorem after_snoc (st : Bool × ByteArray) (A : List Ent) (p : Ent) : after st (A ++ [p]) = (true, p.1) := by simp [after]
theorem after_append (st : Bool × ByteArray) (A B : List Ent) : after (after st A) B = after st (A ++ B) := by
  unfold after
  rw [List.getLast?_append]
  cases hB : B.getLast? with
  | none => simp
  | some p => simp

/-- all keys of L stand above the last one -/
def Pre (st : Bool × ByteArray) (L : List Ent) : Prop := st.1 = true → ∀ p ∈ L, slt st.2 p.1 = true

theorem pre_after {st : Bool × ByteArray} {A B : List Ent} (h : Pre st (A ++ B)) (hu : Up (A ++ B)) : Pre (after st A) B := by
  unfold Up at hu
  rw [List.pairwise_append] at hu
  intro h1 q hq
  unfold after at h1 ⊢
  cases hA : A.getLast? with
  | none =>
    rw [hA] at h1
    exact h h1 q (by simp [hq])
  | some p => exact hu.2.2 p (List.mem_of_getLast? hA) q hq
theorem pre_left {st : Bool × ByteArray} {A B : List Ent} (h : Pre st (A ++ B)) : Pre st A := fun h1 p hp => h h1 p (by simp [hp])

theorem neq_ptr_other {P : Program} (w : World) {tp te : TypeId} {j : TypeInfo} {a b : Addr} {ca cb : Array Value} {ta tb : TypeId} (hp : P.underlying tp = some (.pointer te)) (hte : P.info? te = some j) (hsz : j.size ≠ 0)
    (hne : a ≠ b) (ha : w.heap[a.block]? = some (.cells ca ta (0, 0))) (hb : w.heap[b.block]? = some (.cells cb tb (0, 0))) :
    (binOp .neq tp (.pointer (some a)) (.pointer (some b))).run P w = .ok (.bool true) w := by
  have h : ∀ d : Nat, (Op.equalIn (d + 1) tp (.pointer (some a)) (.pointer (some b))).run P w = .ok false w := fun d => by
    simp [Op.equalIn, run_underlying hp, sizeOf, typeInfo, hte, hsz, run_sameAddr_other w hne ha hb]
  simp only [binOp]
  simp [Op.equal, Op.maxDepth, h 9999]
end Go.Ux
