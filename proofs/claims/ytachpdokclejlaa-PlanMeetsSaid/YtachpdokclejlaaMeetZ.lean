/- PART OF THE PROOF THAT PlanMeetsSaid HOLDS OF THE GIVEN PROGRAM, FOR EVERY INPUT THAT THE STATEMENT NAMES. No condition besides the statement's own. -/
import Derived.Test.YtachpdokclejlaaRows
import Derived.WalkKit
import Derived.Handy
import Derived.WalkSpells
import Derived.WalkLawsBesides
import Derived.BigQuiet
import Derived.Deep.QuietTactic
import Derived.Deep.Cut
import Derived.Laws.Externs
import Derived.Lib.Hide
import Derived.Lib.MinMaxS
import Derived.Test.YtachpdokclejlaaUxPlanZ
import Derived.Test.YtachpdokclejlaaUxHeapZ
import Derived.Test.YtachpdokclejlaaUxOrdZ
namespace Go.Proofs.Ytachpdokclejlaa
open Go.RowKit
/-- a range's value -/
def rng (lo hi : ByteArray) (o : Bool) : Value := .agg #[.string lo, .string hi, .bool o]

theorem le_slt (a b : ByteArray) : (Op.bytesLess a.toList b.toList || a.toList == b.toList) = !Op.bytesLess b.toList a.toList := by
  change (Ux.slt a b || a.toList == b.toList) = !Ux.slt b a
  cases h : Ux.slt a b with
  | true => rw [Ux.slt_asymm h]; rfl
  | false => cases k : Ux.slt b a with
    | true => simp; intro e; rw [Ux.ba_ext e, Ux.slt_irrefl] at k; cases k
    | false => simp [Ux.slt_conn h k]

attribute [local go_sem] Lib.run_max_strs Lib.run_min_strs

set_option maxHeartbeats 400000 in
theorem empty8 (lo hi : ByteArray) (o : Bool) (w : World) : Calls Try.prog 8 #[rng lo hi o] w fun e w' => e = .returned (.bool (!o && !(Ux.slt lo hi))) ∧ Below w.heap.size w w' := by
  unfold rng
  cases o
  all_goals
    go_enter Try.func8, Try.ntmps8
    go_wp2
    go_ret
    refine ⟨?_, by go_grown⟩
    simp [Ux.slt, le_slt]

set_option maxHeartbeats 400000 in
theorem in7 (lo hi : ByteArray) (o : Bool) (k : ByteArray) (w : World) : Calls Try.prog 7 #[rng lo hi o, .string k] w fun e w' => e = .returned (.bool (!(Ux.slt k lo) && (o || Ux.slt k hi))) ∧ Below w.heap.size w w' := by
  unfold rng
  cases o
  all_goals
    go_enter Try.func7, Try.ntmps7
    go_wp2
    all_goals
      go_ret
      refine ⟨?_, by go_grown⟩
      simp_all [Ux.slt]

set_option maxHeartbeats 400000 in
theorem meet6 (lo hi lo' hi' : ByteArray) (o o' : Bool) (w : World) : Calls Try.prog 6 #[rng lo hi o, rng lo' hi' o'] w fun e w' => e = .returned (rng (Lib.maxS lo lo') (if o then (if o' then ⟨#[]⟩ else hi') else if o' then hi else Lib.minS hi hi') (o && o')) ∧ Below w.heap.size w w' := by
  unfold rng
  cases o <;> cases o'
  all_goals
    go_enter Try.func6, Try.ntmps6
    go_wp2
    go_returns
    refine ⟨by simp [rng], by go_grown⟩
end Go.Proofs.Ytachpdokclejlaa
