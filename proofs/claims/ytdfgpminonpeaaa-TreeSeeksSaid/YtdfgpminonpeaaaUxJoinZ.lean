/- PART OF THE PROOF THAT TreeSeeksSaid HOLDS OF THE GIVEN PROGRAM, FOR EVERY INPUT THAT THE STATEMENT NAMES. No condition besides the statement's own. -/
import Derived.Test.YtdfgpminonpeaaaUxHeapZ
/- append of one owned row upon another. -/
namespace Go.Ux
open Go Go.RowKit
theorem src_own {P : Program} {w : World} {tx e e' : TypeId} {v : Value} {n : Nat} {xs : List Value} (hk : P.underlying tx = some (.slice e')) (h : w.ownsRow 0 e 1 v n xs) (h1 : ∀ u ∈ xs, u.oneCell' = true) : Src P 1 tx v n xs w := by
  have hl := h.1
  rcases h.2 with ⟨rfl, rfl⟩ | ⟨g, cap, cur, rfl, _, hg, _, _, _, htk⟩
  · have hx : xs = [] := List.eq_nil_of_length_eq_zero (by simpa using hl)
    subst hx
    exact Src.ofNil w hk 0
  · exact Src.ofSlice w hk ⟨g, 0, none⟩ n cap xs hl (fun j u hj => by
      rw [Addr.add_lit, Nat.zero_add]
      exact row_cell hg (by simpa using htk) j u hj) h1
end Go.Ux
