/- PART OF THE PROOF THAT THIS CLAIM HOLDS OF THE GIVEN PROGRAM, FOR EVERY INPUT THAT THE STATEMENT NAMES. No condition besides the statement's own. -/
import Derived.Test.YtlibbngcdeblmaaDoorTakesZ
import Derived.Test.YtlibbngcdeblmaaDoorUxEndsZ
import Derived.Test.YtlibbngcdeblmaaDoorTie
import Derived.Test.YtlibbngcdeblmaaDoorCards
import Derived.ProofKit
import Derived.Lay
import Derived.LaidOnce
import Derived.SevenTiedAt
import Derived.ChangeMaps5
import Derived.Deep.DeepHandedRow
import Derived.Stop.Joined
import Derived.Lib.SmallJoins
import Derived.Test.YtlibbngcdeblmaaDoorRows
import Derived.WalkKit
import Derived.Handy
import Derived.Laws.EntriesVeiled
import Derived.WalkSpells
import Derived.WalkLawsBesides
import Derived.BigQuiet
import Derived.Deep.QuietTactic
import Derived.Deep.Cut
import Derived.Deep.DeepCutAuto
import Derived.Lib.Overlaps
import Derived.Laws.Externs
import Derived.Lib.Hide
import Derived.Test.YtlibbngcdeblmaaDoorUxPlanAllZ
import Derived.Test.YtlibbngcdeblmaaDoorUxTreeAllZ
import Derived.Deep.LoopGhost
namespace Go.Proofs.YtlibbngcdeblmaaDoor
open Go.RowKit
-- imports: YtlibbngcdeblmaaDoorTakes UxClose YtlibbngcdeblmaaDoorTie YtlibbngcdeblmaaDoorCards Derived.ProofKit Derived.Lay Derived.LaidOnce Derived.SevenTiedAt Derived.ChangeMaps5 Derived.Deep.DeepHandedRow Derived.Stop.Joined Derived.Lib.SmallJoins
open Go.ChangeShapes Go.WideShapes Go.ChangeAt Go.Lib

theorem own : ownKnob Tryd.prog.godebug = none := by kernel_rfl
theorem laidOut : laidOutB Tryd.prog = true := by kernel_rfl

noncomputable def laidW (os : Os) : World := World.laidAll Tryd.prog os Rows.kencTakesRow.laid
def arg5 : Array Value := #[.string ⟨#[]⟩, .bool false, .agg #[.int .i64 0, .int .i64 0, .string ⟨#[]⟩], .agg #[.int .i64 0, .int .i64 0, .string ⟨#[]⟩], .string ⟨#[]⟩]
theorem reads5 (os : Os) {H : Type} (enc : TypeId × Value → H) : ∃ places, DataW.whole enc Tryd.prog ((laidW os).forCall (fun _ _ => 0) ⟨#[], arg5, []⟩).memory Tryd.f5.params.toList Rows.kencTakesSpec.vars false arg5.toList 8 = some ([.lit (.string []), .lit (.bool false), .agg [.lit (.int .i64 0), .lit (.int .i64 0), .lit (.string [])], .agg [.lit (.int .i64 0), .lit (.int .i64 0), .lit (.string [])], .lit (.string [])], [], places) :=
  ⟨[], by kernel_rfl⟩

section
variable {H : Type} {enc : TypeId × Value → H} {W : World}
set_option maxRecDepth 100000 in
theorem open_val {base b0 : Nat} {r : Reach} {spare : Nat → Bool} {held : Bool} {v : Value} {d : DataW H} {p : List MemPlace} (hv : Value.okWide Tryd.prog W r b0 36 v) (h : DataW.Trod enc Tryd.prog W base spare held 36 v d p) :
    ∃ (k n : Int) (s : ByteArray), v = .agg #[.int .i64 k, .int .i64 n, .string s] ∧ d = .agg [.lit (.int .i64 k), .lit (.int .i64 n), .lit (.string s.data.toList)] ∧ p = [] := by
  obtain ⟨v0, v1, v2, y0, y1, y2, n, rfl, rfl, rfl, h0, h1, h2⟩ := _root_.Go.Joins.open_agg3 Tryd.underlying36 (by kernel_rfl) (by kernel_rfl) hv h
  obtain ⟨k, e0, x0, _⟩ := DataW.trod_int Tryd.underlying3 h0
  obtain ⟨m, e1, x1, _⟩ := DataW.trod_int Tryd.underlying2 h1
  obtain ⟨s, e2, x2, _⟩ := DataW.trod_string Tryd.underlying9 h2
  cases e0
  cases e1
  cases e2
  subst x0 x1 x2
  exact ⟨k, m, s, rfl, rfl, rfl⟩
end

set_option maxRecDepth 100000 in
theorem lifted5 (os : Os) (started : os.Started) (H : Type) (enc : TypeId × Value → H) (F : Stop.Interp) :
    ReturnsInHanded {} Tryd.checked os 5 .any ((OpenSpec.ofChange Rows.kencTakesSpec).preRow enc Tryd.prog Tryd.f5 Rows.kencTakesRow.domain false Rows.kencTakesRow.laid) (((OpenSpec.ofChange Rows.kencTakesSpec).at F).post enc Tryd.prog Tryd.f5 false true false false) := by
  obtain ⟨places, hx⟩ := reads5 os enc
  have hok : Input.okWideB Tryd.prog ((laidW os).forCall (fun _ _ => 0) ⟨#[], arg5, []⟩) 5 ⟨#[], arg5, []⟩ = true := by kernel_rfl
  refine returnsInHanded_of_row (C := Tryd.checked) (s := OpenSpec.ofChange Rows.kencTakesSpec) own started (by kernel_rfl) Tryd.func5
    ⟨laidW os, fun _ _ => 0, ⟨#[], arg5, []⟩, World.laidAll_os _ _ _, World.shaped_of_ZipB (by kernel_rfl) (by kernel_rfl), (Input.okWide_of_okWideB (base := 0) hok).1, (Input.okWide_of_okWideB hok).2,
      OpenSpec.preRow_of_cond 8 hx (by kernel_rfl) (fun k hk => by cases hk) (by kernel_rfl) (by rw [MakeChecks.laidMetH_plain _ _ _ (by kernel_rfl)]; exact laidMet_laidAll _ (by kernel_rfl) (by kernel_rfl)),
      by
        simp only [Assume.holds]
        exact ⟨by simp, by simp, (fun h => by first | exact Modest.zero | cases h), by simp, by simp⟩⟩ ?_
  intro W base args ds gs before hval0 hW _ _ hWt _ hSh _
  have hval : ∀ (j : Nat) t v, Tryd.f5.params[j]? = some t → args[j]? = some v → Value.okWide Tryd.prog W .any base t v := hval0
  have hW' := hW
  obtain ⟨p, q, hA0, hV, rfl, _, _⟩ := hW
  have hA : DataW.TrodAll enc Tryd.prog W 0 (fun _ => true) true Tryd.f5.params.toList args.toList ds p := hA0
  rw [Tryd.params5] at hA hval
  obtain ⟨args⟩ := args
  obtain ⟨v0, vs, d0, ds0, p0, q0, ha, rfl, rfl, h0, hA⟩ := trodAll_cons hA
  obtain ⟨v1, vs1, d1, ds1, p1, q1, rfl, rfl, rfl, h1, hA⟩ := trodAll_cons hA
  obtain ⟨v2, vs2, d2, ds2, p2, q2, rfl, rfl, rfl, h2, hA⟩ := trodAll_cons hA
  obtain ⟨v3, vs3, d3, ds3, p3, q3, rfl, rfl, rfl, h3, hA⟩ := trodAll_cons hA
  obtain ⟨v4, vs4, d4, ds4, p4, q4, rfl, rfl, rfl, h4, hA⟩ := trodAll_cons hA
  obtain ⟨rfl, rfl, rfl⟩ := trodAll_nil hA
  simp only at ha
  subst ha
  obtain ⟨rfl, rfl⟩ := trodVars_none hV
  obtain ⟨s0, rfl, rfl, rfl, _⟩ := Go.ChangeMaps.open_string Tryd.underlying9 (hval 0 9 v0 rfl rfl) h0
  obtain ⟨d, rfl, rfl, rfl⟩ := Go.RowKit.open_bool Tryd.underlying4 (hval 1 4 v1 rfl rfl) h1
  obtain ⟨k1, n1, s1, rfl, rfl, rfl⟩ := open_val (hval 2 36 v2 rfl rfl) h2
  obtain ⟨k2, n2, s2, rfl, rfl, rfl⟩ := open_val (hval 3 36 v3 rfl rfl) h3
  obtain ⟨s4, rfl, rfl, rfl, _⟩ := Go.ChangeMaps.open_string Tryd.underlying9 (hval 4 9 v4 rfl rfl) h4
  have hb : s0.size ≤ 140737488351232 ∧ s1.size ≤ 140737488351232 ∧ s2.size ≤ 140737488351232 ∧ s4.size ≤ 140737488351232 := by
    have e : ∀ s : ByteArray, s.data.toList.length = s.size := fun s => by simp
    have hb2 := hWt
    rw [Tryd.params5] at hb2
    have u36 : Tryd.checked.prog.underlying 36 = _ := Tryd.underlying36
    simp [DataW.weightsEach, DataW.weights, u36, reachBytes, e] at hb2
    exact ⟨of_decide_eq_true hb2.1, of_decide_eq_true hb2.2.1, of_decide_eq_true hb2.2.2.1, of_decide_eq_true hb2.2.2.2⟩
  obtain ⟨m, hm⟩ := Tryd.laysM155.s1_3 W hSh
  obtain ⟨b0, b1, b2, b4⟩ := hb
  refine (takes5 s0 d k1 n1 s1 k2 n2 s2 s4 m W hm (by omega) (by omega) (by omega) (by omega)).mono fun e W' ⟨he, ht⟩ => ?_
  subst he
  exact ⟨_, rfl, Ux.law_post laidOut (by kernel_rfl) (by kernel_rfl) Tryd.underlying4 rfl hW' rfl rfl rfl ht.below⟩

theorem kencTakes_holds : Rows.KencTakesSaid :=
  OpenClaim.holds_of_cond 5 Tryd.f5 rfl rfl rfl rfl rfl rfl rfl ⟨rfl, rfl, rfl, rfl, rfl⟩ rfl rfl rfl rfl rfl (by kernel_rfl) Tryd.func5 (by kernel_rfl)
    (of_decide_eq_true (by kernel_rfl)) (by unfold Func.isWrapper; first | (rw [if_pos (by decide +kernel)]; kernel_rfl) | (rw [if_neg (by decide +kernel)]; exact ⟨rfl, rfl⟩))
    (fun os started H enc _ F => by rw [OpenClaim.pre_eq_preRow]; exact lifted5 os started H enc F)
theorem plain5 (f : FuncId) (fn : Func) (hf : Tryd.pinned.checked.prog.funcNamed "umlaut/umlautlaw14.KencTakes" = some f) (hfn : Tryd.pinned.checked.prog.funcs[f]? = some fn) :
    false = Tryd.pinned.checked.prog.looks [] ∧ ∀ (j : Nat) t, fn.params[j]? = some t → Tryd.pinned.checked.prog.wantsStandIn t = false := by
  obtain rfl : f = 5 := Option.some.inj ((show Tryd.prog.funcNamed "umlaut/umlautlaw14.KencTakes" = some 5 by kernel_rfl).symm.trans hf) |>.symm
  obtain rfl : fn = Tryd.f5 := (Option.some.inj (Tryd.func5.symm.trans hfn)).symm
  refine ⟨by kernel_rfl, fun j t ht => ?_⟩
  rw [Tryd.params5] at ht
  have hm : t ∈ [9, 4, 36, 36, 9] := by simpa using Array.mem_of_getElem? ht
  have hall : ([9, 4, 36, 36, 9].all fun u => !Tryd.prog.wantsStandIn u) = true := by kernel_rfl
  exact (show Tryd.prog.wantsStandIn t = false by simpa using List.all_eq_true.1 hall t hm)

/-- The first value's bytes are found in any bytes, or refused; no value is another one's beginning: for every input; the tables of the library that the row lists are tied to the program's text. -/
theorem kencTakesCard_proved : Rows.KencTakesCardSaid :=
  Claim7.holds_tied_plain_at .later [] _ _ _ _ kencTakes_holds (fun _ h => by cases h) (by kernel_rfl) (fun _ h => by cases h) kencTakes_row_tie rfl ⟨rfl, rfl⟩ (by kernel_rfl) rfl plain5 (by kernel_rfl)
#print axioms kencTakesCard_proved

end Go.Proofs.YtlibbngcdeblmaaDoor
