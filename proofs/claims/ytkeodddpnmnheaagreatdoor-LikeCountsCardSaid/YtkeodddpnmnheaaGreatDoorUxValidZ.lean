/- PART OF THE PROOF THAT THIS CLAIM HOLDS OF THE GIVEN PROGRAM, FOR EVERY INPUT THAT THE STATEMENT NAMES. No condition besides the statement's own. -/
import Derived.Test.YtkeodddpnmnheaaGreatDoorUxNumAZ
import Derived.Lib.ValidLaws
/- What is valid in the library's words: all signs are code points. No program. -/
namespace Go.Ux.Sign
open Go
theorem valid_signs (l : List UInt8) : Lib.validD l = (signs l).all fun c => decide (c < 1114112) := by
  obtain ⟨n, hn⟩ : ∃ n, l.length = n := ⟨_, rfl⟩
  induction n using Nat.strongRecOn generalizing l with
  | _ n ih =>
    by_cases h : l = []
    · subst h
      unfold signs
      rfl
    · rw [Lib.validD_step l h, signs_cons h, List.all_cons]
      have hsz : (⟨l.toArray⟩ : ByteArray).data.toList = l := rfl
      have e := decode_sg ⟨l.toArray⟩
      have h1 : 1 ≤ (sg l).2 := sgN_one _ _ _ _
      have h2 := sg_le h
      have hr : (Lib.decodeL l).1 ≤ 1114111 := Lib.decodeL_rune l
      unfold Lib.decodeL at hr ⊢
      rw [hsz] at e
      by_cases hd : (Utf8.decode ⟨l.toArray⟩ 0).1 = 65533 ∧ (Utf8.decode ⟨l.toArray⟩ 0).2 = 1
      · rw [if_pos hd] at e ⊢
        rw [← e]
        symm
        rw [Bool.and_eq_false_iff]
        exact .inl (decide_eq_false (by simp only; omega))
      · rw [if_neg hd] at e ⊢
        rw [e] at hr ⊢
        rw [decide_eq_true (by omega), Bool.true_and]
        exact ih (l.drop (sg l).2).length (by rw [List.length_drop]; omega) _ rfl
end Go.Ux.Sign
