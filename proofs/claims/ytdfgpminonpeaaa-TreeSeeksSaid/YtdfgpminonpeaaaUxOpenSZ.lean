/- PART OF THE PROOF THAT TreeSeeksSaid HOLDS OF THE GIVEN PROGRAM, FOR EVERY INPUT THAT THE STATEMENT NAMES. No condition besides the statement's own. -/
import Derived.ChangeMaps5
/- An argument that is a text. -/
namespace Go.Ux
open Go
theorem open_text {H : Type} {enc : TypeId × Value → H} {P : Program} {w : World} {base : Nat} {sp : Nat → Bool} {held : Bool} {r : Reach} {b0 : Nat} {t : TypeId} {v : Value} {d : DataW H} {ps : List MemPlace} (ht : P.underlying t = some .string) (hval : Value.okWide P w r b0 t v) (hd : DataW.Trod enc P w base sp held t v d ps) :
    ∃ s : ByteArray, v = .string s := by
  obtain ⟨s, h⟩ := Go.ChangeMaps.open_string ht hval hd
  exact ⟨s, h.1⟩
end Go.Ux
