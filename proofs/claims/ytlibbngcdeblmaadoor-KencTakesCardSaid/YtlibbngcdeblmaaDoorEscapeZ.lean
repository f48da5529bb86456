/- PART OF THE PROOF THAT THIS CLAIM HOLDS OF THE GIVEN PROGRAM, FOR EVERY INPUT THAT THE STATEMENT NAMES. No condition besides the statement's own. -/
import Derived.Test.YtlibbngcdeblmaaDoorUneZ
import Derived.Test.YtlibbngcdeblmaaDoorRows
import Derived.WalkKit
import Derived.Handy
import Derived.Laws.EntriesVeiled
import Derived.WalkSpells
import Derived.WalkLawsBesides
import Derived.BigQuiet
import Derived.Deep.QuietTactic
import Derived.Deep.Cut
import Derived.Deep.DeepCutAuto
import Derived.Lib.Overlaps
import Derived.Laws.Externs
import Derived.Lib.Hide
import Derived.Test.YtlibbngcdeblmaaDoorUxPlanAllZ
import Derived.Test.YtlibbngcdeblmaaDoorUxTreeAllZ
import Derived.Deep.LoopGhost
namespace Go.Proofs.YtlibbngcdeblmaaDoor
open Go.RowKit
-- imports: YtlibbngcdeblmaaDoorUne
open Go.RowKit

theorem repK_cons {b : UInt8} (hb : b ≠ 0) (l : List UInt8) : ∀ k, Lib.replaceK [0] [0, 255] k (b :: l) = b :: Lib.replaceK [0] [0, 255] k l
  | 0 => rfl
  | k + 1 => by
    have hix : Lib.index (b :: l) [0] = if Lib.index l [0] == -1 then -1 else Lib.index l [0] + 1 := by
      rw [Lib.index]
      have : List.isPrefixOf [0] (b :: l) = false := by
        have h0 : ((0 : UInt8) == b) = false := beq_eq_false_iff_ne.2 (fun e => hb e.symm)
        simp [List.isPrefixOf, h0]
      rw [this]
      rfl
    by_cases hm : Lib.index l [0] = -1
    · have h1 : Lib.index (b :: l) [0] = -1 := by rw [hix, hm]; rfl
      rw [Lib.replaceK, Lib.replaceK, h1, hm]
      rfl
    · have hge := Lib.index_ge l [0]
      obtain ⟨i, hi⟩ : ∃ i : Nat, Lib.index l [0] = i := ⟨(Lib.index l [0]).toNat, by omega⟩
      have h1 : Lib.index (b :: l) [0] = ((i + 1 : Nat) : Int) := by
        rw [hix, if_neg (by simpa using hm), hi]
        rfl
      rw [Lib.replaceK_hit _ _ k _ (i + 1) h1, Lib.replaceK_hit _ _ k _ i hi]
      have e : i + 1 + [(0 : UInt8)].length = (i + [(0 : UInt8)].length) + 1 := by simp
      rw [e, List.drop_succ_cons, List.take_succ_cons]
      rfl
theorem repK_all : ∀ l : List UInt8, Lib.replaceK [0] [0, 255] (Lib.count l [0]) l = Ux.escB l
  | [] => by
    have : Lib.count [] [0] = 0 := by decide
    rw [this]
    rfl
  | b :: l => by
    by_cases hb : b = 0
    · subst hb
      rw [Lib.count_cons_eq, Nat.add_comm, Lib.replaceK_hit _ _ _ _ 0 (by rw [Lib.index]; simp [List.isPrefixOf]), Ux.escB_cons]
      have := repK_all l
      simp only [List.take_zero, List.nil_append, Nat.zero_add, List.length_cons, List.length_nil, List.drop_succ_cons, List.drop_zero]
      rw [this]
      rfl
    · rw [Lib.count_cons_ne b 0 l hb, repK_cons hb, repK_all l, Ux.escB_cons]
      unfold Ux.esc1
      rw [if_neg hb]
      rfl
theorem replace_zero (l : List UInt8) : Lib.replaceAll l [0] [0, 255] = Ux.escB l := by
  unfold Lib.replaceAll Lib.replace Lib.replaceNum
  rw [if_neg (by decide), if_pos (.inl (by omega))]
  exact repK_all l

set_option maxHeartbeats 2000000 in
theorem escape9 (s : ByteArray) (m : Int) (w : World) (hm : w.cell? ⟨0, 0, none⟩ = some (.int .i64 m)) (hs : s.size ≤ 4000000) :
    Calls Tryd.prog 9 #[.string s] w fun e w' => e = .returned (.string ⟨(Ux.esc s.data.toList).toArray⟩) ∧ Ux.Touch (fun _ => False) w w' := by
  have hc := Lib.countB_le ⟨#[0]⟩ (by decide) s.size s (Nat.le_refl _)
  have c18 := Tryd.strings_ReplaceAll s ⟨#[0]⟩ ⟨#[0, 255]⟩ m w (by omega) hm (by decide) (by
    have : (⟨#[0, 255]⟩ : ByteArray).size = 2 := rfl
    rw [this]
    omega)
  rw [show (⟨#[0]⟩ : ByteArray).data.toList = [0] from rfl, show (⟨#[0, 255]⟩ : ByteArray).data.toList = [0, 255] from rfl, replace_zero] at c18
  obtain ⟨X, hX⟩ : ∃ X : ByteArray, (⟨(Ux.escB s.data.toList).toArray⟩ : ByteArray) = X := ⟨_, rfl⟩
  have hXs : X.size ≤ 8000000 := by
    rw [← hX]
    show (Ux.escB s.data.toList).toArray.size ≤ 8000000
    have := (Ux.escB_length s.data.toList).2
    simp at this ⊢
    have e : s.data.size = s.size := rfl
    omega
  rw [hX] at c18
  have C18 := Lib.hid c18
  have HX := Lib.hid hX
  clear c18 hc hm hX
  go_enter Tryd.func9, Tryd.ntmps9
  go_wp2_with (go_at_call 18; refine C18.out.mono ?_; rintro e w2 ⟨rfl, hb⟩)
  go_ret
  refine ⟨?_, Ux.Touch.of_below hb⟩
  show Ending.returned (.string (X ++ ⟨#[0, 1]⟩)) = _
  rw [← HX.out]
  congr 2

end Go.Proofs.YtlibbngcdeblmaaDoor
