import Derived.Test.YtkeodddpnmnheaaGreatDoorUxNumAZ
/- PART OF THE PROOF THAT THIS CLAIM HOLDS OF THE GIVEN PROGRAM, FOR EVERY INPUT THAT THE STATEMENT NAMES. No condition besides the statement's own. -/
/- Code points stand for themselves whatever is behind; a text that begins with another one, folded. No program. -/
namespace Go.Ux.Sign
open Go

theorem signs_put_cp : ∀ {l : List Nat}, (∀ c ∈ l, cp c) → ∀ x, signs (put l ++ x) = l ++ signs x
  | [], _, x => rfl
  | c :: l, h, x => by
    have hc := h c (by simp)
    have h1 := sg_enc hc (put l ++ x)
    have hne : enc c ≠ [] := fun e => by
      have h2 := sgN_one (bt (enc c ++ (put l ++ x)) 0) (bt (enc c ++ (put l ++ x)) 1) (bt (enc c ++ (put l ++ x)) 2) (bt (enc c ++ (put l ++ x)) 3)
      have h3 : (sg (enc c ++ (put l ++ x))).2 = (enc c).length := by rw [h1]
      rw [e] at h3 h2
      simp at h3
      have h4 : 1 ≤ (sg ([] ++ (put l ++ x))).2 := h2
      simp at h4
      omega
    rw [put_cons, List.append_assoc, signs_cons (by simp [hne]), h1]
    show c :: signs ((enc c ++ (put l ++ x)).drop (enc c).length) = _
    rw [List.drop_left, signs_put_cp (fun d hd => h d (by simp [hd])) x]
    rfl
theorem signs_append_cp {p : List UInt8} (h : ∀ c ∈ signs p, cp c) (x : List UInt8) : signs (p ++ x) = signs p ++ signs x := by
  have := signs_put_cp h x
  rwa [put_signs] at this
theorem put_append (a b : List Nat) : put (a ++ b) = put a ++ put b := by
  unfold put
  rw [List.flatMap_append]
theorem foldText_append {p : List UInt8} (h : ∀ c ∈ signs p, cp c) (x : List UInt8) : foldText (p ++ x) = foldText p ++ foldText x := by
  unfold foldText
  rw [signs_append_cp h, List.map_append, put_append]
theorem foldText_twice (l : List UInt8) : foldText (foldText l) = foldText l := by
  show put ((signs (foldText l)).map foldN) = foldText l
  rw [signs_foldText, List.map_map]
  unfold foldText
  congr 1
  exact List.map_congr_left fun c _ => foldN_twice c
end Go.Ux.Sign
