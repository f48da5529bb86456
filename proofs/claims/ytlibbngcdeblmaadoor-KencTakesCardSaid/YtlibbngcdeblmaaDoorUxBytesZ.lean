/- PART OF THE PROOF THAT THIS CLAIM HOLDS OF THE GIVEN PROGRAM, FOR EVERY INPUT THAT THE STATEMENT NAMES. No condition besides the statement's own. -/
import Derived.WalkKit
import Derived.Laws.IdiomStrings
/- Bytes made a text, at the operation. No program. -/
namespace Go.Ux
open Go Go.RowKit
variable {P : Program}

/-- bytes made a text, their cells known -/
theorem wpList_bytes {ops : Array Oper} {rest : List Oper} {o : Oper} {a : Act} {w : World} {Q : Exit → Act → World → Prop} (l : List UInt8) (hgd : o.guard = none) (src dst e : TypeId) (x : Operand) (ho : o.op = .convert src dst x) (ad : Addr) (cap : Nat)
    (hx : a.eval x = .slice (some ad) l.length cap) (hs : P.underlying src = some (.slice e)) (he : P.underlying e = some (.int .u8)) (hd : P.underlying dst = some .string)
    (hc : ∀ j (hj : j < l.length), w.cell? (ad.add j) = some (.int .u8 (l[j].toNat : Int)))
    (h : wpList P ops Q rest (a.put o.dst (.string ⟨l.toArray⟩)) w) : wpList P ops Q (o :: rest) a w :=
  wpList_plain hgd fun _ hK => by
    have hr := run_convert_bytes_back (P := P) w src dst e ad cap l hs he hd hc
    unfold Oper.wp execOp
    simp only [ho, hx, Sem.run_bind, Sem.run_pure, Result.andThen_ok, hr]
    exact hK _ _ h
theorem is_convert {ops : Array Oper} {rest : List Oper} {op : Oper} {a : Act} {w : World} {Q : Exit → Act → World → Prop} {x : Operand} (src dst : TypeId) (_ : op.op = .convert src dst x) (h : wpList P ops Q (op :: rest) a w) : wpList P ops Q (op :: rest) a w := h
end Go.Ux
