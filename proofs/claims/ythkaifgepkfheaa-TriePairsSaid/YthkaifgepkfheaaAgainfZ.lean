/- PART OF THE PROOF THAT THIS CLAIM HOLDS OF THE GIVEN PROGRAM, FOR EVERY INPUT THAT THE STATEMENT NAMES. No condition besides the statement's own. -/
import Derived.Test.YthkaifgepkfheaaUxEndsZ
import Derived.Test.YthkaifgepkfheaaAgainZ
import Derived.Test.YthkaifgepkfheaaRows
import Derived.WalkKit
import Derived.Handy
import Derived.Laws.EntriesVeiled
import Derived.WalkSpells
import Derived.WalkLawsBesides
import Derived.BigQuiet
import Derived.Deep.QuietTactic
import Derived.Deep.Cut
import Derived.Deep.DeepCutAuto
import Derived.Lib.Overlaps
import Derived.Laws.Externs
import Derived.Lib.Hide
import Derived.Test.YthkaifgepkfheaaUxPlanAllZ
import Derived.Test.YthkaifgepkfheaaUxTreeAllZ
import Derived.Deep.LoopGhost
namespace Go.Proofs.Ythkaifgepkfheaa
open Go.RowKit
-- imports: UxOpen UxOpenP YthkaifgepkfheaaAgain UxClose
open Go.ChangeShapes Go.WideShapes Go.ChangeAt

theorem i64_lo {c : Int} (h : (Lit.int .i64 c).wf = true) : -9223372036854775808 ≤ c := by
  have e1 : IntKind.i64.min = -9223372036854775808 := rfl
  have e2 : IntKind.i64.max = 9223372036854775807 := rfl
  simp only [Lit.wf, e1, e2, Bool.and_eq_true, decide_eq_true_eq] at h
  exact h.1
theorem i64_hi {c : Int} (h : (Lit.int .i64 c).wf = true) : c ≤ 9223372036854775807 := by
  have e1 : IntKind.i64.min = -9223372036854775808 := rfl
  have e2 : IntKind.i64.max = 9223372036854775807 := rfl
  simp only [Lit.wf, e1, e2, Bool.and_eq_true, decide_eq_true_eq] at h
  exact h.2
theorem own : ownKnob Try.prog.godebug = none := by kernel_rfl
theorem laidOut : laidOutB Try.prog = true := by kernel_rfl

set_option maxRecDepth 100000 in
theorem lifted4 (os : Os) (started : os.Started) (H : Type) (enc : TypeId × Value → H) :
    ReturnsInHanded {} Try.checked os 4 .any (Rows.triePairsSpec.pre6 enc Try.prog Try.f4 Rows.triePairsRow.domain false) (Rows.triePairsSpec.post enc Try.prog Try.f4 false true false false) := by
  refine returnsInHanded_of_change (C := Try.checked) own started (by kernel_rfl) Try.func4
    (ChangeSpec.witness6 (enc := enc) (C := Try.checked) false ⟨#[], #[.slice none 0 0], []⟩ 8 (by kernel_rfl) (by kernel_rfl) (by kernel_rfl) (by kernel_rfl)) ?_
  intro W base args ds gs before hval0 hW hcnd _
  have hval : ∀ (j : Nat) t v, Try.f4.params[j]? = some t → args[j]? = some v → Value.okWide Try.prog W .any base t v := hval0
  have hW' := hW
  obtain ⟨p, q, hA0, hV, rfl, hfz, hnd⟩ := hW
  have hA : DataW.TrodAll enc Try.prog W 0 (fun _ => true) true Try.f4.params.toList args.toList ds p := hA0
  rw [Try.params4] at hA hval
  obtain ⟨args⟩ := args
  obtain ⟨v0, vs, d0, ds0, p0, q0, ha, rfl, rfl, h0, hA⟩ := trodAll_cons hA
  obtain ⟨rfl, rfl, rfl⟩ := trodAll_nil hA
  simp only at ha
  subst ha
  obtain ⟨rfl, rfl⟩ := trodVars_none hV
  obtain ⟨a0, c0, l0, rfl, hl0, hc0⟩ := Ux.open_pairs Try.underlying22 Try.underlying29 (by kernel_rfl) (by kernel_rfl) Try.underlying3 Try.underlying3 (hval 0 22 v0 rfl rfl) h0
  clear hA0 hval0
  refine (again4 (.slice a0 l0.length c0) l0 W ⟨a0, c0, rfl, fun i o ho => by obtain ⟨b, f, e1, _, e2, e3⟩ := hc0 i o ho; exact ⟨b, f, e1, e2, e3⟩⟩ (by unfold maxLen at hl0; omega)).mono fun e W' ⟨he, ht⟩ => ?_
  subst he
  exact ⟨_, rfl, Ux.law_post laidOut (by kernel_rfl) (by kernel_rfl) Try.underlying4 rfl hW' rfl rfl rfl ht.below⟩

/-- All numbers that are not nought are told by rising signs, and make the same again: for every input. -/
theorem triePairs_proved : Rows.TriePairsSaid :=
  OpenClaim.holds_of_wide 4 Try.f4 rfl rfl rfl rfl rfl rfl rfl ⟨rfl, rfl, rfl, rfl, rfl⟩ rfl rfl rfl rfl rfl (by kernel_rfl) Try.func4 (by kernel_rfl)
    (of_decide_eq_true (by kernel_rfl)) (by unfold Func.isWrapper; first | (rw [if_pos (by decide +kernel)]; kernel_rfl) | (rw [if_neg (by decide +kernel)]; exact ⟨rfl, rfl⟩))
    (fun os started H enc _ => lifted4 os started H enc)
#print axioms triePairs_proved

end Go.Proofs.Ythkaifgepkfheaa
