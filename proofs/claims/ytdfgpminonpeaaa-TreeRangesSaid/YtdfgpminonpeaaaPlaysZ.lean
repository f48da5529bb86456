/- PART OF THE PROOF THAT THIS CLAIM HOLDS OF THE GIVEN PROGRAM, FOR EVERY INPUT THAT THE STATEMENT NAMES. No condition besides the statement's own. -/
import Derived.Test.YtdfgpminonpeaaaSameZ
import Derived.Test.YtdfgpminonpeaaaBuiltZ
import Derived.Test.YtdfgpminonpeaaaRows
import Derived.WalkKit
import Derived.Handy
import Derived.Laws.EntriesVeiled
import Derived.WalkSpells
import Derived.WalkLawsBesides
import Derived.BigQuiet
import Derived.Deep.QuietTactic
import Derived.Deep.Cut
import Derived.Deep.DeepCutAuto
import Derived.Lib.Overlaps
import Derived.Laws.Externs
import Derived.Lib.Hide
import Derived.Test.YtdfgpminonpeaaaUxPlanAllZ
import Derived.Test.YtdfgpminonpeaaaUxTreeAllZ
import Derived.Deep.LoopGhost
namespace Go.Proofs.Ytdfgpminonpeaaa
open Go.RowKit
-- imports: YtdfgpminonpeaaaSame YtdfgpminonpeaaaBuilt
open Ux (slt lb has Rises keys ins del playN play1 Act3)

set_option maxRecDepth 100000 in
theorem new9bad (a : Int) (w : World) (h : a < 4 ∨ 64 < a) : Calls Try.prog 9 #[.int .i64 a] w fun e w' => e = .returned (.tuple #[.pointer none, .int .i64 1]) ∧ w = w' := by
  by_cases h4 : a < 4
  · have d4 : decide (a < 4) = true := by simpa using h4
    clear h
    go_enter Try.func9, Try.ntmps9
    go_wp2
    go_ret2
    exact ⟨rfl, rfl⟩
  · have h64 : 64 < a := by omega
    have d4 : decide (a < 4) = false := by simpa using h4
    have d64 : decide (64 < a) = true := by simpa using h64
    clear h
    go_enter Try.func9, Try.ntmps9
    go_wp2
    go_ret2
    exact ⟨rfl, rfl⟩

set_option maxHeartbeats 2000000 in
set_option maxRecDepth 100000 in
theorem law5 (a0 : Int) (W : World) (base : Option Addr) (c : Nat) (ops : List Act3) (hops : OpsAt W base ops) (hlen : ops.length ≤ maxLen) :
    Calls Try.prog 5 #[.int .i64 a0, .slice base ops.length c] W fun e w' => e = .returned (.bool true) ∧ Ux.Touch (fun _ => False) W w' := by
  by_cases h : a0 < 4 ∨ 64 < a0
  · have HN := Lib.hid (new9bad a0 W h)
    have HA := Lib.hid (awake20 W)
    rcases (show a0 < 4 ∨ (¬ a0 < 4 ∧ 64 < a0) by omega) with h4 | ⟨h4, h64⟩
    · have d4 : decide (a0 < 4) = true := by simpa using h4
      clear h hops
      go_enter Try.func5, Try.ntmps5
      go_wp2_with (first | (go_at_call 9; refine HN.out.mono ?_; rintro e w' ⟨rfl, rfl⟩) | (go_at_call 20; fail))
      refine HA.out.mono ?_
      rintro e w1 ⟨rfl, T1⟩
      go_wp2
      go_ret
      exact ⟨rfl, T1⟩
    · have d4 : decide (a0 < 4) = false := by simpa using h4
      have d64 : decide (64 < a0) = true := by simpa using h64
      clear h hops
      go_enter Try.func5, Try.ntmps5
      go_wp2_with (first | (go_at_call 9; refine HN.out.mono ?_; rintro e w' ⟨rfl, rfl⟩) | (go_at_call 20; fail))
      refine HA.out.mono ?_
      rintro e w1 ⟨rfl, T1⟩
      go_wp2
      go_ret
      exact ⟨rfl, T1⟩
  · obtain ⟨F, rfl⟩ : ∃ F : Nat, a0 = F := ⟨a0.toNat, by omega⟩
    have f4 : ¬ (F : Int) < 4 := by omega
    have f64 : ¬ (64 : Int) < F := by omega
    have d4 : decide ((F : Int) < 4) = false := by simpa using f4
    have d64 : decide (64 < (F : Int)) = false := by simpa using f64
    have HB := Lib.hid (built25 F (by omega) (by omega) base c ops 150 (by omega) W hops hlen)
    obtain ⟨no, hno⟩ : ∃ no, ops.length = no := ⟨_, rfl⟩
    have hl := Ux.playN_length ops (min ops.length 150)
    have HL := Lib.hid hl
    rw [hno]
    rw [hno] at HB HL
    clear hno hl h hops hlen
    go_enter Try.func5, Try.ntmps5
    go_wp2_with (go_at_call 25; fail)
    refine HB.out.mono ?_
    rintro e w1 ⟨tb, v, rfl, B1⟩
    have HS := Lib.hid (same26 B1.tree B1.pairs (by have := HL.out; omega))
    have HB1 := Lib.hid B1
    clear B1
    go_wp2_with (go_at_call 26; fail)
    refine HS.out.mono ?_
    rintro e w2 ⟨rfl, T2⟩
    have HT2 := Lib.hid T2
    clear T2
    go_wp2_with (go_at_call 20; fail)
    refine (awake20 _).mono ?_
    rintro e w3 ⟨rfl, T3⟩
    have HT3 := Lib.hid ((HB1.out.touch.trans HT2.out (fun _ _ f => f.elim)).trans T3 (fun _ _ f => f.elim))
    clear T3
    go_wp2
    go_ret
    exact ⟨rfl, HT3.out.mono (fun b hb h => by omega)⟩

end Go.Proofs.Ytdfgpminonpeaaa
