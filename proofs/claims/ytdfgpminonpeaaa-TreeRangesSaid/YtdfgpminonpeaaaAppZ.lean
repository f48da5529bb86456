/- PART OF THE PROOF THAT THIS CLAIM HOLDS OF THE GIVEN PROGRAM, FOR EVERY INPUT THAT THE STATEMENT NAMES. No condition besides the statement's own. -/
import Derived.Test.YtdfgpminonpeaaaUxTreeAllZ
import Derived.Test.YtdfgpminonpeaaaRows
import Derived.WalkKit
import Derived.Handy
import Derived.Laws.EntriesVeiled
import Derived.WalkSpells
import Derived.WalkLawsBesides
import Derived.BigQuiet
import Derived.Deep.QuietTactic
import Derived.Deep.Cut
import Derived.Lib.Overlaps
import Derived.Laws.Externs
import Derived.Lib.Hide
import Derived.Test.YtdfgpminonpeaaaUxPlanAllZ
import Derived.Deep.LoopGhost
namespace Go.Proofs.Ytdfgpminonpeaaa
open Go.RowKit
-- imports: UxJoin
theorem ainfoS : (Try.prog.info? 9).map (fun i => (i.zero, i.size, i.bytes)) = some (some (.string ⟨#[]⟩), 1, 16) := by kernel_rfl
/-- append of a row upon a row -/
theorem appendS (v v' : Value) (n m : Nat) (xs ys : List Value) (w : World) (h : w.ownsRow 0 9 1 v n xs) (h' : w.ownsRow 0 9 1 v' m ys) (h1 : ∀ u ∈ ys, u.oneCell' = true) (hb : n + m ≤ 2147483648) :
    ∃ r w', (∀ ty, (Builtin.append_ #[22, 22] ty #[v, v']).run Try.prog w = .ok r w') ∧ w'.ownsRow 0 9 1 r (n + m) (xs ++ ys) ∧ Ux.Touch (fun k => v.ownBlock = some k) w w' ∧ (r.ownBlock = v.ownBlock ∨ ∃ g, r.ownBlock = some g ∧ w.heap.size ≤ g) ∧ (r = .slice none 0 0 → v = .slice none 0 0 ∧ m = 0) := by
  obtain ⟨i0, hi0, hz0, hz1, hz2⟩ := info_parts ainfoS
  have key := fun ty => Ux.run_app (P := Try.prog) w 22 ty 9 i0 (.string ⟨#[]⟩) 1 16 Try.underlying22 hi0 hz0 hz1 hz2 rfl (by omega) v n xs h v' m ys (Ux.src_own Try.underlying22 h' h1) (by simp only [maxLen]; omega) (by omega)
  obtain ⟨r, w', hr, ho, ht, hbk, hn⟩ := key 22
  refine ⟨r, w', fun ty => ?_, ho, ht, hbk, hn⟩
  exact hr

-- imports: UxJoin
theorem ainfoI : (Try.prog.info? 3).map (fun i => (i.zero, i.size, i.bytes)) = some (some (.int .i64 0), 1, 8) := by kernel_rfl
/-- append of a row upon a row -/
theorem appendI (v v' : Value) (n m : Nat) (xs ys : List Value) (w : World) (h : w.ownsRow 0 3 1 v n xs) (h' : w.ownsRow 0 3 1 v' m ys) (h1 : ∀ u ∈ ys, u.oneCell' = true) (hb : n + m ≤ 2147483648) :
    ∃ r w', (∀ ty, (Builtin.append_ #[40, 40] ty #[v, v']).run Try.prog w = .ok r w') ∧ w'.ownsRow 0 3 1 r (n + m) (xs ++ ys) ∧ Ux.Touch (fun k => v.ownBlock = some k) w w' ∧ (r.ownBlock = v.ownBlock ∨ ∃ g, r.ownBlock = some g ∧ w.heap.size ≤ g) ∧ (r = .slice none 0 0 → v = .slice none 0 0 ∧ m = 0) := by
  obtain ⟨i0, hi0, hz0, hz1, hz2⟩ := info_parts ainfoI
  have key := fun ty => Ux.run_app (P := Try.prog) w 40 ty 3 i0 (.int .i64 0) 1 8 Try.underlying40 hi0 hz0 hz1 hz2 rfl (by omega) v n xs h v' m ys (Ux.src_own Try.underlying40 h' h1) (by simp only [maxLen]; omega) (by omega)
  obtain ⟨r, w', hr, ho, ht, hbk, hn⟩ := key 40
  refine ⟨r, w', fun ty => ?_, ho, ht, hbk, hn⟩
  exact hr

-- imports: UxJoin
theorem ainfoP : (Try.prog.info? 59).map (fun i => (i.zero, i.size, i.bytes)) = some (some (.pointer none), 1, 8) := by kernel_rfl
/-- append of a row upon a row -/
theorem appendP (v v' : Value) (n m : Nat) (xs ys : List Value) (w : World) (h : w.ownsRow 0 59 1 v n xs) (h' : w.ownsRow 0 59 1 v' m ys) (h1 : ∀ u ∈ ys, u.oneCell' = true) (hb : n + m ≤ 2147483648) :
    ∃ r w', (∀ ty, (Builtin.append_ #[60, 60] ty #[v, v']).run Try.prog w = .ok r w') ∧ w'.ownsRow 0 59 1 r (n + m) (xs ++ ys) ∧ Ux.Touch (fun k => v.ownBlock = some k) w w' ∧ (r.ownBlock = v.ownBlock ∨ ∃ g, r.ownBlock = some g ∧ w.heap.size ≤ g) ∧ (r = .slice none 0 0 → v = .slice none 0 0 ∧ m = 0) := by
  obtain ⟨i0, hi0, hz0, hz1, hz2⟩ := info_parts ainfoP
  have key := fun ty => Ux.run_app (P := Try.prog) w 60 ty 59 i0 (.pointer none) 1 8 Try.underlying60 hi0 hz0 hz1 hz2 rfl (by omega) v n xs h v' m ys (Ux.src_own Try.underlying60 h' h1) (by simp only [maxLen]; omega) (by omega)
  obtain ⟨r, w', hr, ho, ht, hbk, hn⟩ := key 60
  refine ⟨r, w', fun ty => ?_, ho, ht, hbk, hn⟩
  exact hr

end Go.Proofs.Ytdfgpminonpeaaa
