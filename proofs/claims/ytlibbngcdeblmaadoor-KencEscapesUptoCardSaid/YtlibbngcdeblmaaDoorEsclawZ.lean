/- PART OF THE PROOF THAT THIS CLAIM HOLDS OF THE GIVEN PROGRAM, FOR EVERY INPUT THAT THE STATEMENT NAMES. No condition besides the statement's own. -/
import Derived.Test.YtlibbngcdeblmaaDoorEscapeZ
import Derived.Test.YtlibbngcdeblmaaDoorAwakeZ
import Derived.Test.YtlibbngcdeblmaaDoorRows
import Derived.WalkKit
import Derived.Handy
import Derived.Laws.EntriesVeiled
import Derived.WalkSpells
import Derived.WalkLawsBesides
import Derived.BigQuiet
import Derived.Deep.QuietTactic
import Derived.Deep.Cut
import Derived.Deep.DeepCutAuto
import Derived.Lib.Overlaps
import Derived.Laws.Externs
import Derived.Lib.Hide
import Derived.Test.YtlibbngcdeblmaaDoorUxPlanAllZ
import Derived.Test.YtlibbngcdeblmaaDoorUxTreeAllZ
import Derived.Deep.LoopGhost
namespace Go.Proofs.YtlibbngcdeblmaaDoor
open Go.RowKit
-- imports: YtlibbngcdeblmaaDoorEscape YtlibbngcdeblmaaDoorAwake
open Go.RowKit

theorem bytes_back (a : ByteArray) : (⟨a.data.toList.toArray⟩ : ByteArray) = a := by
  apply ByteArray.ext
  simp

theorem esc_order {a b x y A B : ByteArray} (hA : A.data.toList = Ux.esc a.data.toList) (hB : B.data.toList = Ux.esc b.data.toList) (hab : ¬ a = b) :
    Op.bytesLess a.toList b.toList = Op.bytesLess (A ++ x).toList (B ++ y).toList := by
  have eA : (A ++ x).toList = Ux.esc a.data.toList ++ x.data.toList := by rw [Lib.toList_data, ← hA]; simp
  have eB : (B ++ y).toList = Ux.esc b.data.toList ++ y.data.toList := by rw [Lib.toList_data, ← hB]; simp
  rw [Ux.bytesLess_dec, Ux.bytesLess_dec, eA, eB, Lib.toList_data, Lib.toList_data]
  by_cases h : a.data.toList < b.data.toList
  · rw [decide_eq_true h, decide_eq_true (Ux.esc_lt _ _ _ _ h)]
  · have h2 : b.data.toList < a.data.toList := by
      refine Classical.byContradiction fun h3 => hab (Ux.ba_ext ?_)
      rw [Lib.toList_data, Lib.toList_data]
      exact List.le_antisymm (List.not_lt.1 h3) (List.not_lt.1 h)
    rw [decide_eq_false h, decide_eq_false]
    intro h3
    exact List.lt_irrefl _ (List.lt_trans h3 (Ux.esc_lt _ _ y.data.toList x.data.toList h2))

set_option maxHeartbeats 8000000 in
set_option maxRecDepth 100000 in
theorem escapes4 (a b x y z : ByteArray) (m : Int) (w : World) (hm : w.cell? ⟨0, 0, none⟩ = some (.int .i64 m)) (ha : a.size ≤ 1048576) (hb : b.size ≤ 1048576) (hx : x.size ≤ 1048576) (hy : y.size ≤ 1048576) (hz : z.size ≤ 1048576) :
    Calls Tryd.prog 4 #[.string a, .string b, .string x, .string y, .string z] w fun e w' => e = .returned (.bool true) ∧ Ux.Touch (fun _ => False) w w' := by
  obtain ⟨A, hA⟩ : ∃ A : ByteArray, (⟨(Ux.esc a.data.toList).toArray⟩ : ByteArray) = A := ⟨_, rfl⟩
  obtain ⟨B, hB⟩ : ∃ B : ByteArray, (⟨(Ux.esc b.data.toList).toArray⟩ : ByteArray) = B := ⟨_, rfl⟩
  have hAl : A.data.toList = Ux.esc a.data.toList := by rw [← hA]
  have hBl : B.data.toList = Ux.esc b.data.toList := by rw [← hB]
  have hsz : ∀ (s E : ByteArray), E.data.toList = Ux.esc s.data.toList → s.size ≤ 1048576 → E.size ≤ 2097154 := fun s E h hs => by
    have h1 := (Ux.escB_length s.data.toList).2
    have h2 : E.data.toList.length = (Ux.esc s.data.toList).length := by rw [h]
    have h3 : E.data.toList.length = E.size := by simp
    have h4 : s.data.toList.length = s.size := by simp
    unfold Ux.esc at h2
    rw [List.length_append] at h2
    simp only [List.length_cons, List.length_nil] at h2
    omega
  have hAs := hsz a A hAl ha
  have hBs := hsz b B hBl hb
  have eA : ∀ w', Ux.Touch (fun _ => False) w w' → Calls Tryd.prog 9 #[.string a] w' fun e w'' => e = .returned (.string A) ∧ Ux.Touch (fun _ => False) w' w'' := fun w' ht => by
    have := escape9 a m w' (ht.cell hm (fun f => f)) (by omega)
    rwa [hA] at this
  have eB : ∀ w', Ux.Touch (fun _ => False) w w' → Calls Tryd.prog 9 #[.string b] w' fun e w'' => e = .returned (.string B) ∧ Ux.Touch (fun _ => False) w' w'' := fun w' ht => by
    have := escape9 b m w' (ht.cell hm (fun f => f)) (by omega)
    rwa [hB] at this
  have rA : ∀ w', Calls Tryd.prog 12 #[.string a] w' fun e w'' => e = .returned (.string A) ∧ Ux.Touch (fun _ => False) w' w'' := fun w' => by
    have := refEscape12 a w' (by omega)
    rwa [hA] at this
  obtain ⟨k, hk⟩ : ∃ k, A.size = k := ⟨_, rfl⟩
  have uA : ∀ w', Calls Tryd.prog 10 #[.string (A ++ x)] w' fun e w'' => e = .returned (.tuple #[.string a, .int .i64 k, .int .i64 0]) ∧ Ux.Touch (fun _ => False) w' w'' := fun w' => by
    have h1 : (A ++ x).size ≤ 4000000 := by rw [ByteArray.size_append]; omega
    have := unescape10 (A ++ x) w' h1
    have h2 : (A ++ x).data.toList = Ux.esc a.data.toList ++ x.data.toList := by rw [← hAl]; simp
    rw [h2, Ux.une_esc] at this
    unfold uneV at this
    simp only [List.nil_append, Nat.zero_add] at this
    rw [bytes_back, ← hAl] at this
    have h3 : A.data.toList.length = k := by rw [← hk]; simp
    rw [h3] at this
    exact this
  obtain ⟨T, hT⟩ : ∃ T : ByteArray, (⟨(Ux.une z.data.toList [] 0).1.toArray⟩ : ByteArray) = T := ⟨_, rfl⟩
  obtain ⟨u, hu⟩ : ∃ u : Int, ((Ux.une z.data.toList [] 0).2.1 : Int) = u := ⟨_, rfl⟩
  obtain ⟨c, hc⟩ : ∃ c, (Ux.une z.data.toList [] 0).2.2 = c := ⟨_, rfl⟩
  have uZ : ∀ w', Calls Tryd.prog 10 #[.string z] w' fun e w'' => e = .returned (.tuple #[.string T, .int .i64 u, .int .i64 c]) ∧ Ux.Touch (fun _ => False) w' w'' := fun w' => by
    have := unescape10 z w' (by omega)
    unfold uneV at this
    rwa [hT, hu, hc] at this
  have rZ : ∀ w', Calls Tryd.prog 11 #[.string z] w' fun e w'' => e = .returned (.tuple #[.string T, .int .i64 u, .int .i64 c]) ∧ Ux.Touch (fun _ => False) w' w'' := fun w' => by
    have := refUnescape11 z w' (by omega)
    unfold uneV at this
    rwa [hT, hu, hc] at this
  have CA := Lib.hid eA
  have CB := Lib.hid eB
  have CR := Lib.hid rA
  have CU := Lib.hid uA
  have CZ := Lib.hid uZ
  have CY := Lib.hid rZ
  have AW := Lib.hid awake8
  have HE := Lib.hid (And.intro hAl hBl)
  clear eA eB rA uA uZ rZ hA hB hT hu hc hsz hm hAl hBl
  go_enter Tryd.func4, Tryd.ntmps4
  go_wp2_with (go_at_call 9; fail)
  refine (CA.out w (Ux.Touch.refl _ _)).mono ?_
  rintro e w1 ⟨rfl, ht1⟩
  have T1 := Lib.hid ht1
  clear ht1
  go_wp2_with (go_at_call 9; fail)
  refine (CB.out w1 T1.out).mono ?_
  rintro e w2 ⟨rfl, ht2⟩
  have T2 := Lib.hid (T1.out.trans ht2 (fun _ _ h => h))
  clear ht2
  go_wp2_with (go_at_call 10; fail)
  refine (CU.out w2).mono ?_
  rintro e w3 ⟨rfl, ht3⟩
  have T3 := Lib.hid (T2.out.trans ht3 (fun _ _ h => h))
  clear ht3
  go_wp2_with (go_at_call 10; fail)
  refine (CZ.out w3).mono ?_
  rintro e w4 ⟨rfl, ht4⟩
  have T4 := Lib.hid (T3.out.trans ht4 (fun _ _ h => h))
  clear ht4
  go_wp2_with (go_at_call 11; fail)
  refine (CY.out w4).mono ?_
  rintro e w5 ⟨rfl, ht5⟩
  have T5 := Lib.hid (T4.out.trans ht5 (fun _ _ h => h))
  clear ht5
  go_wp2_with (go_at_call 12; fail)
  refine (CR.out w5).mono ?_
  rintro e w6 ⟨rfl, ht6⟩
  have T6 := Lib.hid (T5.out.trans ht6 (fun _ _ h => h))
  clear ht6
  go_upto_region 7 with (fail)
  by_cases hab : a = b
  · subst hab
    go_wp2_with (go_at_call 8; refine (AW.out _).mono ?_; rintro e w7 ⟨rfl, ht7⟩)
    go_ret
    exact ⟨rfl, T6.out.trans ht7 (fun _ _ h => h)⟩
  · have hne : ¬ a.toList = b.toList := fun h => hab (Ux.ba_ext h)
    have hlt : Op.bytesLess a.toList b.toList = Op.bytesLess (A ++ x).toList (B ++ y).toList := esc_order HE.out.1 HE.out.2 hab
    have hs1 : ¬ 9223372036854775807 < k + x.size := by omega
    have hs2 : ¬ 9223372036854775807 < B.size + y.size := by omega
    clear hab
    go_wp2_with (go_at_call 8; refine (AW.out _).mono ?_; rintro e w7 ⟨rfl, ht7⟩)
    go_ret
    exact ⟨rfl, T6.out.trans ht7 (fun _ _ h => h)⟩

end Go.Proofs.YtlibbngcdeblmaaDoor
