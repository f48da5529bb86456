/- PART OF THE PROOF THAT THIS CLAIM HOLDS OF THE GIVEN PROGRAM, FOR EVERY INPUT THAT THE STATEMENT NAMES. No condition besides the statement's own. -/
import Derived.Test.YthkaifgepkfheaaUxTrieZ
import Derived.Test.YthkaifgepkfheaaUxMapZ
import Derived.Test.YthkaifgepkfheaaRows
import Derived.WalkKit
import Derived.Handy
import Derived.Laws.EntriesVeiled
import Derived.WalkSpells
import Derived.WalkLawsBesides
import Derived.BigQuiet
import Derived.Deep.QuietTactic
import Derived.Deep.Cut
import Derived.Deep.DeepCutAuto
import Derived.Lib.Overlaps
import Derived.Laws.Externs
import Derived.Lib.Hide
import Derived.Test.YthkaifgepkfheaaUxPlanAllZ
import Derived.Test.YthkaifgepkfheaaUxTreeAllZ
import Derived.Deep.LoopGhost
namespace Go.Proofs.Ythkaifgepkfheaa
open Go.RowKit
-- imports: UxTrie UxMap
open Ux.Trie (fnd Pr)

/-- pairs in memory, wherever they came from -/
def PrsAt (w : World) (v : Value) (l : List Pr) : Prop :=
  ∃ a c, v = .slice a l.length c ∧ ∀ i p, l[i]? = some p → ∃ b f, a = some ⟨b, f, none⟩ ∧ w.cell? ⟨b, f + i * 2, none⟩ = some (.int .i64 p.1) ∧ w.cell? ⟨b, f + i * 2 + 1, none⟩ = some (.int .i64 p.2)

theorem may_yes {c v : Int} (h : 0 ≤ c ∧ c ≤ 1114367 ∧ -2147483648 ≤ v ∧ v < 2147483648) : Ux.Trie.may (c, v) = true := by
  unfold Ux.Trie.may; simp [h.1, h.2.1, h.2.2.1, h.2.2.2]
theorem may_no {c v : Int} (h : ¬ (0 ≤ c ∧ c ≤ 1114367 ∧ -2147483648 ≤ v ∧ v < 2147483648)) : Ux.Trie.may (c, v) = false := by
  rw [Bool.eq_false_iff]
  intro e
  unfold Ux.Trie.may at e
  simp only [Bool.and_eq_true, decide_eq_true_eq] at e
  exact h ⟨e.1.1.1, e.1.1.2, e.1.2, e.2⟩

theorem may8 (c v : Int) (w : World) : Calls Try.prog 8 #[.agg #[.int .i64 c, .int .i64 v]] w fun e w' => e = .returned (.bool (Ux.Trie.may (c, v))) ∧ Below w.heap.size w w' := by
  go_enter Try.func8, Try.ntmps8
  go_wp2
  all_goals (go_ret; refine ⟨?_, (Below.refl _ _).alloc (Nat.le_refl _) _⟩)
  all_goals first
    | (rw [may_yes (by omega)]; rfl)
    | (rw [may_no (by omega)]; rfl)
    | (rw [show Ux.Trie.may (c, v) = decide (v < 2147483648) by
        by_cases hv : v < 2147483648
        · rw [may_yes (by omega), decide_eq_true hv]
        · rw [may_no (by omega), decide_eq_false hv]]
       rfl)

theorem valid17 (c v : Int) (w : World) : Calls Try.prog 17 #[.agg #[.int .i64 c, .int .i64 v]] w fun e w' => e = .returned (.bool (Ux.Trie.may (c, v))) ∧ Below w.heap.size w w' := by
  go_enter Try.func17, Try.ntmps17
  go_wp2
  all_goals (go_ret; refine ⟨?_, (Below.refl _ _).alloc (Nat.le_refl _) _⟩)
  all_goals first
    | (rw [may_yes (by omega)]; rfl)
    | (rw [may_no (by omega)]; rfl)
    | (rw [show Ux.Trie.may (c, v) = decide (v ≤ 2147483647) by
        by_cases hv : v ≤ 2147483647
        · rw [may_yes (by omega), decide_eq_true hv]
        · rw [may_no (by omega), decide_eq_false hv]]
       rfl)

/-- the closure in Build: not valid -/
theorem bad16 (c v : Int) (w : World) : Calls Try.prog 16 #[.agg #[.int .i64 c, .int .i64 v]] w fun e w' => e = .returned (.bool (!Ux.Trie.may (c, v))) ∧ Below w.heap.size w w' := by
  go_enter Try.func16, Try.ntmps16
  go_wp2_with (go_at_call 17; refine (valid17 _ _ _).mono ?_; rintro e w' ⟨rfl, hb⟩)
  go_ret
  refine ⟨rfl, ?_⟩
  exact ((Below.refl _ _).alloc (Nat.le_refl _) _).trans (hb.mono (by simp))

end Go.Proofs.Ythkaifgepkfheaa
