/- PART OF THE PROOF THAT PlanMeetsSaid HOLDS OF THE GIVEN PROGRAM, FOR EVERY INPUT THAT THE STATEMENT NAMES. No condition besides the statement's own. -/
import Derived.Lib.SmallJoins
import Derived.Test.YtachpdokclejlaaLaw2Z
import Derived.Test.YtachpdokclejlaaLaw3Z
import Derived.Test.YtachpdokclejlaaLaw4Z
import Derived.Test.YtachpdokclejlaaUxCloseZ
import Derived.Test.YtachpdokclejlaaRows
import Derived.WalkKit
import Derived.Handy
import Derived.WalkSpells
import Derived.WalkLawsBesides
import Derived.BigQuiet
import Derived.Deep.QuietTactic
import Derived.Deep.Cut
import Derived.Laws.Externs
import Derived.Lib.Hide
import Derived.Lib.MinMaxS
import Derived.Test.YtachpdokclejlaaUxPlanZ
import Derived.Test.YtachpdokclejlaaUxHeapZ
import Derived.Test.YtachpdokclejlaaUxOrdZ
namespace Go.Proofs.Ytachpdokclejlaa
open Go.RowKit
-- import: YtachpdokclejlaaLaw2
-- import: YtachpdokclejlaaLaw3
-- import: YtachpdokclejlaaLaw4
-- import: UxClose
-- importlib: Derived.Lib.SmallJoins

theorem law3 (la ha lb hb k : ByteArray) (oa ob : Bool) (w : World) : Calls Try.prog 3 #[rng la ha oa, rng lb hb ob, .string k] w fun e w' => e = .returned (.bool true) ∧ Ux.Touch (fun _ => False) w w' := by
  have hm6 := fun w => meet6 la ha lb hb oa ob w
  obtain ⟨lm, hlm⟩ : ∃ lm, Lib.maxS la lb = lm := ⟨_, rfl⟩
  obtain ⟨hm, hhm⟩ : ∃ hm, (if oa then (if ob then (⟨#[]⟩ : ByteArray) else hb) else if ob then ha else Lib.minS ha hb) = hm := ⟨_, rfl⟩
  obtain ⟨om, hom⟩ : ∃ om, (oa && ob) = om := ⟨_, rfl⟩
  have hin : inR lm hm om k = (inR la ha oa k && inR lb hb ob k) := by rw [← hlm, ← hhm, ← hom]; exact in_meet la ha lb hb oa ob k
  have hem := empty_none lm hm om k
  rw [hlm, hhm, hom] at hm6
  have ia : ∀ w, Calls Try.prog 7 #[rng la ha oa, .string k] w fun e w' => e = .returned (.bool (inR la ha oa k)) ∧ Below w.heap.size w w' := fun w => in7 la ha oa k w
  have ib : ∀ w, Calls Try.prog 7 #[rng lb hb ob, .string k] w fun e w' => e = .returned (.bool (inR lb hb ob k)) ∧ Below w.heap.size w w' := fun w => in7 lb hb ob k w
  have im : ∀ w, Calls Try.prog 7 #[rng lm hm om, .string k] w fun e w' => e = .returned (.bool (inR lm hm om k)) ∧ Below w.heap.size w w' := fun w => in7 lm hm om k w
  have ea := fun w => empty8 la ha oa w
  have em : ∀ w, Calls Try.prog 8 #[rng lm hm om] w fun e w' => e = .returned (.bool (emptyR lm hm om)) ∧ Below w.heap.size w w' := fun w => empty8 lm hm om w
  have hle : (Op.bytesLess ha.toList la.toList || ha.toList == la.toList) = !Ux.slt la ha := le_slt ha la
  obtain ⟨xa, hxa⟩ : ∃ xa, inR la ha oa k = xa := ⟨_, rfl⟩
  obtain ⟨xb, hxb⟩ : ∃ xb, inR lb hb ob k = xb := ⟨_, rfl⟩
  obtain ⟨xm, hxm⟩ : ∃ xm, inR lm hm om k = xm := ⟨_, rfl⟩
  obtain ⟨xe, hxe⟩ : ∃ xe, emptyR lm hm om = xe := ⟨_, rfl⟩
  obtain ⟨y, hy⟩ : ∃ y, Ux.slt la ha = y := ⟨_, rfl⟩
  rw [hxm, hxa, hxb] at hin
  rw [hxe, hxm] at hem
  rw [hy] at hle ea
  rw [hxa] at ia
  rw [hxb] at ib
  rw [hxm] at im
  rw [hxe] at em
  subst hin
  have M := Lib.hid (And.intro hm6 (And.intro ia (And.intro ib (And.intro im (And.intro ea em)))))
  clear hm6 ia ib im ea em hlm hhm hom hxa hxb hxm hxe hy
  cases oa <;> cases ob <;> cases xa <;> cases xe
  · cases y
    · exact law3_fffxff la ha lb hb k lm hm om xb hle M w
    · exact law3_fffxft la ha lb hb k lm hm om xb hle M w
  · cases y
    · exact law3_fffxtf la ha lb hb k lm hm om xb hle M w
    · exact law3_fffxtt la ha lb hb k lm hm om xb hle M w
  · cases xb
    · cases y
      · exact law3_fftfff la ha lb hb k lm hm om hle M w
      · exact law3_fftfft la ha lb hb k lm hm om hle M w
    · cases y
      · exact law3_ffttff la ha lb hb k lm hm om hle M w
      · exact law3_ffttft la ha lb hb k lm hm om hle M w
  · cases xb
    · cases y
      · exact law3_fftftf la ha lb hb k lm hm om hle M w
      · exact law3_fftftt la ha lb hb k lm hm om hle M w
    · exact absurd (hem rfl) (by decide)
  · cases y
    · exact law3_ftfxff la ha lb hb k lm hm om xb hle M w
    · exact law3_ftfxft la ha lb hb k lm hm om xb hle M w
  · cases y
    · exact law3_ftfxtf la ha lb hb k lm hm om xb hle M w
    · exact law3_ftfxtt la ha lb hb k lm hm om xb hle M w
  · cases xb
    · cases y
      · exact law3_fttfff la ha lb hb k lm hm om hle M w
      · exact law3_fttfft la ha lb hb k lm hm om hle M w
    · cases y
      · exact law3_ftttff la ha lb hb k lm hm om hle M w
      · exact law3_ftttft la ha lb hb k lm hm om hle M w
  · cases xb
    · cases y
      · exact law3_fttftf la ha lb hb k lm hm om hle M w
      · exact law3_fttftt la ha lb hb k lm hm om hle M w
    · exact absurd (hem rfl) (by decide)
  · exact law3_tffxff la ha lb hb k lm hm om xb M w
  · exact law3_tffxtf la ha lb hb k lm hm om xb M w
  · cases xb
    · exact law3_tftfff la ha lb hb k lm hm om M w
    · exact law3_tfttff la ha lb hb k lm hm om M w
  · cases xb
    · exact law3_tftftf la ha lb hb k lm hm om M w
    · exact absurd (hem rfl) (by decide)
  · exact law3_ttfxff la ha lb hb k lm hm om xb M w
  · exact law3_ttfxtf la ha lb hb k lm hm om xb M w
  · cases xb
    · exact law3_tttfff la ha lb hb k lm hm om M w
    · exact law3_ttttff la ha lb hb k lm hm om M w
  · cases xb
    · exact law3_tttftf la ha lb hb k lm hm om M w
    · exact absurd (hem rfl) (by decide)

open Go.ChangeShapes Go.WideShapes Go.ChangeAt

theorem own : ownKnob Try.prog.godebug = none := by kernel_rfl
theorem laidOut : laidOutB Try.prog = true := by kernel_rfl

section
variable {H : Type} {enc : TypeId × Value → H} {W : World}
set_option maxRecDepth 100000 in
theorem open_rng {base b0 : Nat} {r : Reach} {spare : Nat → Bool} {held : Bool} {v : Value} {d : DataW H} {p : List MemPlace} (hv : Value.okWide Try.prog W r b0 23 v) (h : DataW.Trod enc Try.prog W base spare held 23 v d p) :
    ∃ lo hi o, v = rng lo hi o := by
  obtain ⟨v0, v1, v2, y0, y1, y2, n, rfl, rfl, rfl, h0, h1, h2⟩ := _root_.Go.Joins.open_agg3 Try.underlying23 (by kernel_rfl) (by kernel_rfl) hv h
  obtain ⟨s0, e0, _⟩ := DataW.trod_string Try.underlying9 h0
  obtain ⟨s1, e1, _⟩ := DataW.trod_string Try.underlying9 h1
  obtain ⟨b, e2, _⟩ := DataW.trod_bool Try.underlying4 h2
  cases e0
  cases e1
  cases e2
  exact ⟨s0, s1, b, rfl⟩
end

set_option maxRecDepth 100000 in
theorem lifted (os : Os) (started : os.Started) (H : Type) (enc : TypeId × Value → H) :
    ReturnsInHanded {} Try.checked os 3 .any (Rows.planMeetsSpec.pre6 enc Try.prog Try.f3 Rows.planMeetsRow.domain false) (Rows.planMeetsSpec.post enc Try.prog Try.f3 false true false false) := by
  refine returnsInHanded_of_change (C := Try.checked) own started (by kernel_rfl) Try.func3
    (ChangeSpec.witness6 (enc := enc) (C := Try.checked) false ⟨#[], #[.agg #[.string ⟨#[]⟩, .string ⟨#[]⟩, .bool false], .agg #[.string ⟨#[]⟩, .string ⟨#[]⟩, .bool false], .string ⟨#[]⟩], []⟩ 8 (by kernel_rfl) (by kernel_rfl) (by kernel_rfl) (by kernel_rfl)) ?_
  intro W base args ds gs before hval0 hW hcnd _
  have hval : ∀ (j : Nat) t v, Try.f3.params[j]? = some t → args[j]? = some v → Value.okWide Try.prog W .any base t v := hval0
  have hW' := hW
  obtain ⟨p, q, hA0, hV, rfl, hfz, hnd⟩ := hW
  have hA : DataW.TrodAll enc Try.prog W 0 (fun _ => true) true Try.f3.params.toList args.toList ds p := hA0
  rw [Try.params3] at hA hval
  obtain ⟨v0, v1, v2, d0, d1, d2, p0, p1, p2, rfl, rfl, rfl, h0, h1, h2⟩ := trodAll_three hA
  obtain ⟨rfl, rfl⟩ := trodVars_none hV
  obtain ⟨la, ha, oa, rfl⟩ := open_rng (hval 0 23 v0 rfl rfl) h0
  obtain ⟨lb, hb, ob, rfl⟩ := open_rng (hval 1 23 v1 rfl rfl) h1
  obtain ⟨k, rfl⟩ := okWide_string Try.underlying9 (hval 2 9 v2 rfl rfl)
  clear hA0 hval0
  refine (law3 la ha lb hb k oa ob W).mono fun e W' ⟨he, ht⟩ => ?_
  subst he
  exact ⟨_, rfl, Ux.law_post laidOut (by kernel_rfl) (by kernel_rfl) Try.underlying4 rfl hW' rfl rfl rfl ht.below⟩

theorem over : Rows.planMeetsRow.holds Try.pinned (OpenSpec.ofChange Rows.planMeetsSpec) :=
  OpenClaim.holds_of_wide 3 Try.f3 rfl rfl rfl rfl rfl rfl rfl ⟨rfl, rfl, rfl, rfl, rfl⟩ rfl rfl rfl rfl rfl (by kernel_rfl) Try.func3 (by kernel_rfl)
    (of_decide_eq_true (by kernel_rfl)) (by unfold Func.isWrapper; first | (rw [if_pos (by decide +kernel)]; kernel_rfl) | (rw [if_neg (by decide +kernel)]; exact ⟨rfl, rfl⟩))
    (fun os started H enc _ => lifted os started H enc)

/-- What is in two ranges is in what they share, and nothing else: for every input. -/
theorem planMeets_proved : Rows.PlanMeetsSaid :=
  over
end Go.Proofs.Ytachpdokclejlaa
