/- PART OF THE PROOF THAT THIS CLAIM HOLDS OF THE GIVEN PROGRAM, FOR EVERY INPUT THAT THE STATEMENT NAMES. No condition besides the statement's own. -/
import Derived.Test.YtkeodddpnmnheaaGreatDoorUxCollAZ
import Derived.Test.YtkeodddpnmnheaaGreatDoorUxKeyAZ
/- Letters a with marks: how texts of them stand by marks, from the end. No program. -/
namespace Go.Ux
open Go

/-- the mark's number: 0 none, 1 acute, 2 grave -/
def mkS (m : Nat) : List Nat := if m = 1 then [769] else if m = 2 then [768] else []
def mkB (m : Nat) : List UInt8 := if m = 1 then [204, 129] else if m = 2 then [204, 128] else []
def xS (l : List Nat) : List Nat := l.flatMap fun m => 97 :: mkS m
/-- a text of letters a, marked -/
def xB (l : List Nat) : List UInt8 := l.flatMap fun m => 97 :: mkB m
/-- its weights of the second level -/
def xP (l : List Nat) : List Nat := l.flatMap fun m => 32 :: if 0 < m then [35 + m] else []
theorem xB_put (l : List Nat) : xB l = Sign.put (xS l) := by
  induction l with
  | nil => rfl
  | cons m l ih =>
    unfold xB xS at ih ⊢
    rw [List.flatMap_cons, List.flatMap_cons, ih, Sign.put_append]
    congr 1
    unfold mkB mkS
    split
    · decide +kernel
    · split <;> decide +kernel
theorem xS_cp (l : List Nat) : ∀ c ∈ xS l, Sign.cp c := fun c hc => by
  unfold xS at hc
  obtain ⟨m, _, hc⟩ := List.mem_flatMap.1 hc
  unfold mkS at hc
  unfold Sign.cp
  split at hc
  · simp at hc; omega
  · split at hc <;> simp at hc <;> omega
theorem signs_xB (l : List Nat) : Sign.signs (xB l) = xS l := by
  have h := Sign.signs_put_cp (xS_cp l) []
  rw [List.append_nil, ← xB_put, show Sign.signs [] = [] by unfold Sign.signs; rfl, List.append_nil] at h
  exact h
def xE (l : List Nat) : List Nat := l.flatMap fun m => eLetter 0 2 :: (if m = 1 then [eMark 769] else if m = 2 then [eMark 768] else [])
theorem root_marks : findE rootE [97] = some [eLetter 0 2] ∧ findE rootE [769] = some [eMark 769] ∧ findE rootE [768] = some [eMark 768] := by decide +kernel
theorem elems_xS (l : List Nat) : elemsE rootE (xS l) = xE l := by
  rw [elems_single rootE_one]
  unfold xS xE
  rw [List.flatMap_assoc]
  congr 1
  funext m
  rw [List.flatMap_cons, root_marks.1]
  show [eLetter 0 2] ++ _ = _
  rw [List.singleton_append]
  congr 1
  unfold mkS
  split
  · rw [List.flatMap_cons, root_marks.2.1]; rfl
  · split
    · rw [List.flatMap_cons, root_marks.2.2]; rfl
    · rfl
theorem back_w : (keepW false 1 (eLetter 0 2) = true ∧ wt8 1 (eLetter 0 2) = 256 ∧ keepW false 2 (eLetter 0 2) = true ∧ wt8 2 (eLetter 0 2) = 32) ∧ (keepW false 1 (eMark 769) = false ∧ keepW false 2 (eMark 769) = true ∧ wt8 2 (eMark 769) = 36) ∧ (keepW false 1 (eMark 768) = false ∧ keepW false 2 (eMark 768) = true ∧ wt8 2 (eMark 768) = 37) := by decide +kernel
theorem back_1 (l : List Nat) : wF false 1 (xE l) = l.map fun _ => 256 := by
  induction l with
  | nil => rfl
  | cons m l ih =>
    unfold xE at ih ⊢
    rw [List.flatMap_cons, List.map_cons, List.cons_append, wF_cons, wF_app, ih, if_pos back_w.1.1, back_w.1.2.1]
    split
    · rw [wF_cons, back_w.2.1.1]; rfl
    · split
      · rw [wF_cons, back_w.2.2.1]; rfl
      · rfl
theorem back_2 (l : List Nat) (h : ∀ m ∈ l, m < 3) : wF false 2 (xE l) = xP l := by
  induction l with
  | nil => rfl
  | cons m l ih =>
    have hm := h m (by simp)
    have ih := ih fun k hk => h k (by simp [hk])
    unfold xE xP at ih ⊢
    rw [List.flatMap_cons, List.flatMap_cons, List.cons_append, wF_cons, wF_app, ih, if_pos back_w.1.2.2.1, back_w.1.2.2.2]
    have hc : m = 0 ∨ m = 1 ∨ m = 2 := by omega
    rcases hc with rfl | rfl | rfl
    · rfl
    · rw [if_pos rfl, wF_cons, back_w.2.1.2.1, if_pos rfl, back_w.2.1.2.2]; rfl
    · rw [if_neg (by decide), if_pos rfl, wF_cons, back_w.2.2.2.1, if_pos rfl, back_w.2.2.2.2]; rfl
theorem backs_1 (bk : Bool) (a b : List Nat) (h : a.length = b.length) : wghC false bk (xE a) (xE b) 1 1 = 0 := by
  have e : a.map (fun _ => 256) = b.map fun _ => 256 := by rw [List.map_const', List.map_const', h]
  unfold wghC wghC
  rw [wts1, wts1, back_1, back_1, e, cmpL_self, if_neg (by simp)]
theorem backs_2 (a b : List Nat) (h : a.length = b.length) (ha : ∀ m ∈ a, m < 3) (hb : ∀ m ∈ b, m < 3) : wghC false true (xE a) (xE b) 1 2 = cmpL (sv (xP a).reverse) (sv (xP b).reverse) := by
  have e : a.map (fun _ => 256) = b.map fun _ => 256 := by rw [List.map_const', List.map_const', h]
  have w2 : ∀ l, wts false true 2 l = (wF false 2 l).reverse := fun l => by unfold wts; rw [if_pos (by simp)]
  unfold wghC
  rw [wts1, wts1, back_1, back_1, e, cmpL_self, if_neg (by simp)]
  unfold wghC wghC
  rw [w2, w2, back_2 a ha, back_2 b hb]
  split
  · rfl
  · rename_i h
    exact (Classical.not_not.1 h).symm
end Go.Ux
