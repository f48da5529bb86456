/- PART OF THE PROOF THAT THIS CLAIM HOLDS OF THE GIVEN PROGRAM, FOR EVERY INPUT THAT THE STATEMENT NAMES. No condition besides the statement's own. -/
import Derived.Test.YthkaifgepkfheaaSmallZ
import Derived.Test.YthkaifgepkfheaaRows
import Derived.WalkKit
import Derived.Handy
import Derived.Laws.EntriesVeiled
import Derived.WalkSpells
import Derived.WalkLawsBesides
import Derived.BigQuiet
import Derived.Deep.QuietTactic
import Derived.Deep.Cut
import Derived.Deep.DeepCutAuto
import Derived.Lib.Overlaps
import Derived.Laws.Externs
import Derived.Lib.Hide
import Derived.Test.YthkaifgepkfheaaUxPlanAllZ
import Derived.Test.YthkaifgepkfheaaUxTreeAllZ
import Derived.Deep.LoopGhost
namespace Go.Proofs.Ythkaifgepkfheaa
open Go.RowKit
-- imports: YthkaifgepkfheaaSmall
open Ux.Trie (fnd Pr)

theorem fnd_drop {l : List Pr} {i : Nat} {p : Pr} (h : l[i]? = some p) (c : Int) : fnd (l.drop i) c = if p.1 = c then p.2 else fnd (l.drop (i + 1)) c := by
  obtain ⟨hi, e⟩ := List.getElem?_eq_some_iff.1 h
  rw [List.drop_eq_getElem_cons hi, e]
  rfl

set_option maxHeartbeats 2000000 in
theorem find10 (v : Value) (l : List Pr) (c : Int) (w : World) (h : PrsAt w v l) (hl : l.length ≤ 1152921504606846976) :
    Calls Try.prog 10 #[v, .int .i64 c] w fun e w' => e = .returned (.int .i64 (fnd l c)) ∧ w' = w := by
  obtain ⟨a, cp, rfl, hcell⟩ := h
  obtain ⟨n, hn⟩ : ∃ n, l.length = n := ⟨_, rfl⟩
  obtain ⟨r, hr⟩ : ∃ r, fnd l c = r := ⟨_, rfl⟩
  rw [hn] at hl
  rw [hn, hr]
  have HC := Lib.hid hcell
  have HR := Lib.hid (And.intro hr hn)
  have j0 : (n : Int) ≤ 1152921504606846976 := by omega
  clear hcell hr hn hl
  go_enter Try.func10, Try.ntmps10
  go_wp2
  go_loopg [5] n (fun g s5 wr => ∃ i : Nat, s5 = .int .i64 i ∧ i + g = n ∧ Hid (fnd (l.drop i) c = r) ∧ wr = w)
  case atStart => exact ⟨0, rfl, by omega, Lib.hid HR.out.1, rfl⟩
  case round =>
    obtain ⟨i, rfl, hig, HF, rfl⟩ := hrel
    have p0 : (0 : Int) ≤ i := by omega
    by_cases hlt : i < n
    · obtain ⟨g', rfl⟩ : ∃ g', gk = g' + 1 := ⟨gk - 1, by omega⟩
      obtain ⟨p, hp⟩ : ∃ p, l[i]? = some p := ⟨l[i]'(by have := HR.out.2; omega), List.getElem?_eq_getElem (by have := HR.out.2; omega)⟩
      obtain ⟨b, f, ha, c1, c2⟩ := HC.out i p hp
      have hd := fnd_drop hp c
      subst ha
      have j1 : (i : Int) < n := by omega
      by_cases he : p.1 = c
      · rw [if_pos he] at hd
        have HD := Lib.hid hd
        have HP := Lib.hid hp
        clear hd hp
        subst he
        go_wp2
        go_ret
        exact ⟨by rw [← HF.out, HD.out]; rfl, rfl⟩
      · rw [if_neg he] at hd
        have HD := Lib.hid hd
        have HP := Lib.hid hp
        clear hd hp
        go_wp2
        go_roundg g'
        case measure => omega
        case rel => exact ⟨i + 1, rfl, by omega, Lib.hid (HD.out.symm.trans HF.out), rfl⟩
    · have q1 : ¬ (i : Int) < n := by omega
      have hr0 : r = 0 := by
        rw [← HF.out, List.drop_eq_nil_of_le (by have := HR.out.2; omega)]
        rfl
      subst hr0
      clear hlt
      go_wp2
      go_ret
      exact ⟨rfl, rfl⟩

/-- a trie in memory: its unlike blocks, one behind the other, and which one each block of signs is -/
def blCells (bl : List (List Int)) : List Value := bl.flatMap fun b => b.map (Value.int .i32)

end Go.Proofs.Ythkaifgepkfheaa
