/- PART OF THE PROOF THAT THIS CLAIM HOLDS OF THE GIVEN PROGRAM, FOR EVERY INPUT THAT THE STATEMENT NAMES. No condition besides the statement's own. -/
import Derived.Test.YthkaifgepkfheaaUxMapZ
import Derived.Test.YthkaifgepkfheaaUxTreeAllZ
import Derived.Maps.OwnOps
/- Maps of the call at the operation, for a walk. No program. -/
namespace Go.Ux
open Go Go.Maps
variable {P : Program}

/-- a look into a map whose run is known -/
theorem wpList_look {w : World} {ops : Array Oper} {rest : List Oper} {o : Oper} {a : Act} {Q : Exit → Act → World → Prop} {m1 x1 v : Value} {c : Bool} (hg : o.guard = none) (m x : Operand) (t : TypeId) (hop : o.op = Op.lookup t m x c)
    (hm : a.eval m = m1) (hx : a.eval x = x1) (hr : (Instr.lookup t m1 x1 c).run P w = .ok v w) (hK : wpList P ops Q rest (a.put o.dst v) w) : wpList P ops Q (o :: rest) a w := by
  refine wpList_plain hg fun K' hK' => ?_
  unfold Oper.wp
  simp [execOp, hop, hm, hx, hr, Result.andThen]
  exact hK' _ _ hK

/-- a store into a map -/
theorem wpList_put {w : World} {ops : Array Oper} {rest : List Oper} {o : Oper} {a : Act} {Q : Exit → Act → World → Prop} {k e : TypeId} {b n : Nat} {f : Lit → Option Value} {key val : Value} {kl : Lit} (hg : o.guard = none) (m x v : Operand) (t : TypeId) (hop : o.op = Op.mapUpdate t m x v)
    (hm : a.eval m = .map (some b)) (hx : a.eval x = key) (hv : a.eval v = val) (h : MapIs P k w b n f) (K : Keyed P k) (ht : P.underlying t = some (.map k e)) (hn : n < maxLen) (hkey : keyOf P k key = some kl)
    (hK : ∀ w', MapIs P k w' b (n + 1) (upd f kl val) → Touch (fun i => i = b) w w' → wpList P ops Q rest (a.put o.dst undef) w') : wpList P ops Q (o :: rest) a w := by
  refine wpList_plain hg fun K' hK' => ?_
  obtain ⟨w', hrun, r1, r2⟩ := h.store K ht hn (val := val) hkey
  have hT : Touch (fun i => i = b) w w' := by
    obtain ⟨es, clock, es', clock', h1, rfl⟩ := r2
    exact ⟨rfl, rfl, rfl, by simp [ChangeMaps.setBlock], fun i hi hn => ChangeMaps.heap_setBlock_other h1 _ hn⟩
  unfold Oper.wp
  simp [execOp, hop, hm, hx, hv, hrun, Result.andThen]
  exact hK' _ _ (hK w' r1 hT)

theorem MapIs.touch {k : TypeId} {w w' : World} {b n : Nat} {f : Lit → Option Value} {R : Nat → Prop} (h : MapIs P k w b n f) (ht : Touch R w w') (hn : ¬ R b) : MapIs P k w' b n f := h.same (ht.block b h.lt hn)
end Go.Ux
