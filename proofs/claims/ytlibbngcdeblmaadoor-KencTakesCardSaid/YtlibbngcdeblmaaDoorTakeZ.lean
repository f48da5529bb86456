/- PART OF THE PROOF THAT THIS CLAIM HOLDS OF THE GIVEN PROGRAM, FOR EVERY INPUT THAT THE STATEMENT NAMES. No condition besides the statement's own. -/
import Derived.Test.YtlibbngcdeblmaaDoorUneZ
import Derived.Test.YtlibbngcdeblmaaDoorRows
import Derived.WalkKit
import Derived.Handy
import Derived.Laws.EntriesVeiled
import Derived.WalkSpells
import Derived.WalkLawsBesides
import Derived.BigQuiet
import Derived.Deep.QuietTactic
import Derived.Deep.Cut
import Derived.Deep.DeepCutAuto
import Derived.Lib.Overlaps
import Derived.Laws.Externs
import Derived.Lib.Hide
import Derived.Test.YtlibbngcdeblmaaDoorUxPlanAllZ
import Derived.Test.YtlibbngcdeblmaaDoorUxTreeAllZ
import Derived.Deep.LoopGhost
namespace Go.Proofs.YtlibbngcdeblmaaDoor
open Go.RowKit
-- imports: YtlibbngcdeblmaaDoorUne
open Go.RowKit

theorem une_le : ∀ (n : Nat) (l acc : List UInt8) (u : Nat), l.length ≤ n → (Ux.une l acc u).2.1 ≤ u + l.length
  | _, [], acc, u, _ => by rw [une_nil]; simp
  | 0, b :: l, acc, u, h => by simp at h
  | n + 1, b :: l, acc, u, h => by
    by_cases hb : b = 0
    · subst hb
      cases l with
      | nil => rw [une_end]; simp
      | cons c r =>
        by_cases h1 : c = 1
        · subst h1; rw [une_done]; simp
        · by_cases h2 : c = 255
          · subst h2
            rw [une_zero]
            have := une_le n r (acc ++ [0]) (u + 2) (by simp at h; omega)
            simp only [List.length_cons]
            omega
          · rw [une_bad h1 h2]; simp
    · rw [une_plain hb]
      have := une_le n l (acc ++ [b]) (u + 1) (by simpa using h)
      simp only [List.length_cons]
      omega

def tkV (x : Nat × Int) : Value := .tuple #[.int .i64 x.1, .int .i64 x.2]

set_option maxHeartbeats 8000000 in
set_option maxRecDepth 100000 in
theorem take13 (s : ByteArray) (d : Bool) (w : World) (hs : s.size ≤ 4000000) : Calls Tryd.prog 13 #[.string s, .bool d] w fun e w' => e = .returned (tkV (Ux.tk (Ux.turnIf d s.data.toList))) ∧ Ux.Touch (fun _ => False) w w' := by
  obtain ⟨r, hr⟩ : ∃ r, Ux.tk (Ux.turnIf d s.data.toList) = r := ⟨_, rfl⟩
  rw [hr]
  have c21 := Lib.hid (turn21 s w (by omega))
  cases d with
  | true =>
    obtain ⟨K, hK⟩ : ∃ K : ByteArray, (⟨(Ux.turn s.data.toList).toArray⟩ : ByteArray) = K := ⟨_, rfl⟩
    rw [hK] at c21
    obtain ⟨L, hL0⟩ : ∃ L, Ux.turnIf true s.data.toList = L := ⟨_, rfl⟩
    have hKL : K.data.toList = L := by rw [← hK, ← hL0]; rfl
    have hKs : K.size ≤ 4000000 := by
      have h2 : K.data.toList.length = K.size := by simp
      have h3 : s.data.toList.length = s.size := by simp
      rw [hKL, ← hL0, Ux.turnIf_length] at h2
      omega
    rw [hL0] at hr
    clear hK hL0
    go_enter Tryd.func13, Tryd.ntmps13
    go_upto_region 3 with (go_at_call 21; refine c21.out.mono ?_; rintro e w2 ⟨rfl, ht⟩; have TT := Lib.hid ht; clear ht)

    by_cases h0 : K.size = 0
    · have hL : L = [] := List.eq_nil_of_length_eq_zero (by rw [← hKL]; simpa using h0)
      have hK0 : K.toList.isEmpty = true := by rw [Lib.toList_data, hKL, hL]; rfl
      rw [hL] at hr
      have hr' : ((0 : Nat), (4 : Int)) = r := hr
      subst hr'
      clear hr h0
      go_wp2
      go_returns
      exact ⟨rfl, TT.out⟩
    · obtain ⟨n, hn⟩ : ∃ n, K.size = n + 1 := ⟨K.size - 1, by omega⟩
      have h1 : 0 < K.size := by omega
      obtain ⟨b, hb⟩ : ∃ b : UInt8, K[0]'h1 = b := ⟨_, rfl⟩
      have hg := Lib.data_getElem? K 0 h1
      rw [hb, hKL] at hg
      obtain ⟨q, hq⟩ : ∃ q, L = b :: q := by
        cases L with
        | nil => simp at hg
        | cons x q => simp at hg; exact ⟨q, by rw [hg]⟩
      have hql : q.length = n := by
        have h2 : K.data.toList.length = K.size := by simp
        rw [hKL, hq, List.length_cons] at h2
        omega
      have hK0 : K.toList.isEmpty = false := by rw [Lib.toList_data, hKL, hq]; rfl
      have hex : (K.extract 1 (n + 1)).data.toList = q := by
        rw [Lib.extract_data, hKL, hq, List.drop_succ_cons, List.drop_zero]
        exact List.take_of_length_le (by omega)
      rw [hq, Ux.tk_cons] at hr
      have HK := Lib.hid (And.intro hKL (And.intro hq hql))
      clear hg hKL hq h0
      by_cases b1 : b = 1
      · subst b1
        rw [if_pos rfl] at hr
        subst hr
        go_wp2
        go_returns
        exact ⟨rfl, TT.out⟩
      · rw [if_neg b1] at hr
        have b1' : ¬ (b.toNat : Int) = 1 := fun e => b1 (UInt8.toNat_inj.1 (by simpa using (by omega : b.toNat = 1)))
        by_cases b2 : b = 2
        · subst b2
          rw [if_pos rfl] at hr
          rcases Nat.eq_zero_or_pos n with hn0 | hn0
          · subst hn0
            have hq0 : q = [] := List.eq_nil_of_length_eq_zero HK.out.2.2
            rw [hq0] at hr
            have hr' : ((0 : Nat), (4 : Int)) = r := hr
            subst hr'
            clear hr
            go_wp2
            go_returns
            exact ⟨rfl, TT.out⟩
          · have h2 : 1 < K.size := by omega
            obtain ⟨y, hy⟩ : ∃ y : UInt8, K[1]'h2 = y := ⟨_, rfl⟩
            have hgy := Lib.data_getElem? K 1 h2
            rw [hy, HK.out.1, HK.out.2.1] at hgy
            obtain ⟨q', hq'⟩ : ∃ q', q = y :: q' := by
              cases q with
              | nil => simp at hgy
              | cons x q' => simp at hgy; exact ⟨q', by rw [hgy]⟩
            rw [hq'] at hr
            simp only at hr
            have hn1 : ¬ ((n : Int) + 1 < 2) := by omega
            clear hgy hq'
            by_cases hy1 : 1 < y.toNat
            · rw [if_pos hy1] at hr
              subst hr
              have hy2 : (1 : Int) < y.toNat := by omega
              go_wp2
              go_returns
              exact ⟨rfl, TT.out⟩
            · rw [if_neg hy1] at hr
              subst hr
              have hy2 : ¬ (1 : Int) < y.toNat := by omega
              go_wp2
              go_returns
              exact ⟨rfl, TT.out⟩
        · rw [if_neg b2] at hr
          have b2' : ¬ (b.toNat : Int) = 2 := fun e => b2 (UInt8.toNat_inj.1 (by simpa using (by omega : b.toNat = 2)))
          by_cases b3 : b = 3
          · subst b3
            rw [if_pos rfl] at hr
            rw [HK.out.2.2] at hr
            by_cases h8 : n < 8
            · rw [if_pos h8] at hr
              subst hr
              have h8' : (n : Int) + 1 < 9 := by omega
              go_wp2
              go_returns
              exact ⟨rfl, TT.out⟩
            · rw [if_neg h8] at hr
              subst hr
              have h8' : ¬ (n : Int) + 1 < 9 := by omega
              go_wp2
              go_returns
              exact ⟨rfl, TT.out⟩
          · rw [if_neg b3] at hr
            have b3' : ¬ (b.toNat : Int) = 3 := fun e => b3 (UInt8.toNat_inj.1 (by simpa using (by omega : b.toNat = 3)))
            by_cases b4 : b = 4
            · subst b4
              rw [if_pos rfl] at hr
              obtain ⟨T, hT⟩ : ∃ T : ByteArray, (⟨(Ux.une q [] 0).1.toArray⟩ : ByteArray) = T := ⟨_, rfl⟩
              obtain ⟨u, hu⟩ : ∃ u, (Ux.une q [] 0).2.1 = u := ⟨_, rfl⟩
              obtain ⟨c, hc⟩ : ∃ c, (Ux.une q [] 0).2.2 = c := ⟨_, rfl⟩
              have C10 : Hid (∀ w', Calls Tryd.prog 10 #[.string (K.extract 1 (n + 1))] w' fun e w'' => e = .returned (.tuple #[.string T, .int .i64 u, .int .i64 c]) ∧ Ux.Touch (fun _ => False) w' w'') := Lib.hid fun w' => by
                have := unescape10 (K.extract 1 (n + 1)) w' (by
                  have h2 : (K.extract 1 (n + 1)).data.toList.length = (K.extract 1 (n + 1)).size := Array.length_toList
                  rw [hex, HK.out.2.2] at h2
                  omega)
                rw [hex] at this
                unfold uneV at this
                rwa [hT, hu, hc] at this
              have hub : u ≤ 4000000 := by
                have := une_le q.length q [] 0 (Nat.le_refl _)
                rw [hu] at this
                have := HK.out.2.2
                omega
              have hub' : (u : Int) ≤ 4000000 := by omega
              rw [hc, hu] at hr
              clear hT hu hc hex
              by_cases hc0 : c = 0
              · rw [if_pos hc0] at hr
                subst hr
                subst hc0
                go_wp2_with (go_at_call 10; refine (C10.out _).mono ?_; rintro e w3 ⟨rfl, ht⟩)
                go_returns
                refine ⟨?_, TT.out.trans ht (fun _ _ h => h)⟩
                unfold tkV
                simp only [Int.natCast_add]
                rfl
              · rw [if_neg hc0] at hr
                subst hr
                go_wp2_with (go_at_call 10; refine (C10.out _).mono ?_; rintro e w3 ⟨rfl, ht⟩)
                go_returns
                exact ⟨rfl, TT.out.trans ht (fun _ _ h => h)⟩
            · rw [if_neg b4] at hr
              have b4' : ¬ (b.toNat : Int) = 4 := fun e => b4 (UInt8.toNat_inj.1 (by simpa using (by omega : b.toNat = 4)))
              subst hr
              go_wp2
              go_returns
              exact ⟨rfl, TT.out⟩
  | false =>
    obtain ⟨K, hK⟩ : ∃ K : ByteArray, s = K := ⟨_, rfl⟩
    subst hK
    obtain ⟨L, hL0⟩ : ∃ L, Ux.turnIf false s.data.toList = L := ⟨_, rfl⟩
    have hKL : s.data.toList = L := hL0
    rw [hL0] at hr
    clear hL0
    obtain ⟨K, hK⟩ : ∃ K : ByteArray, K = s := ⟨_, rfl⟩
    subst hK
    have TT : Hid (Ux.Touch (fun _ => False) w w) := Lib.hid (Ux.Touch.refl _ _)
    have hKs := hs
    go_enter Tryd.func13, Tryd.ntmps13
    go_upto_region 3 with (fail)

    by_cases h0 : K.size = 0
    · have hL : L = [] := List.eq_nil_of_length_eq_zero (by rw [← hKL]; simpa using h0)
      have hK0 : K.toList.isEmpty = true := by rw [Lib.toList_data, hKL, hL]; rfl
      rw [hL] at hr
      have hr' : ((0 : Nat), (4 : Int)) = r := hr
      subst hr'
      clear hr h0
      go_wp2
      go_returns
      exact ⟨rfl, TT.out⟩
    · obtain ⟨n, hn⟩ : ∃ n, K.size = n + 1 := ⟨K.size - 1, by omega⟩
      have h1 : 0 < K.size := by omega
      obtain ⟨b, hb⟩ : ∃ b : UInt8, K[0]'h1 = b := ⟨_, rfl⟩
      have hg := Lib.data_getElem? K 0 h1
      rw [hb, hKL] at hg
      obtain ⟨q, hq⟩ : ∃ q, L = b :: q := by
        cases L with
        | nil => simp at hg
        | cons x q => simp at hg; exact ⟨q, by rw [hg]⟩
      have hql : q.length = n := by
        have h2 : K.data.toList.length = K.size := by simp
        rw [hKL, hq, List.length_cons] at h2
        omega
      have hK0 : K.toList.isEmpty = false := by rw [Lib.toList_data, hKL, hq]; rfl
      have hex : (K.extract 1 (n + 1)).data.toList = q := by
        rw [Lib.extract_data, hKL, hq, List.drop_succ_cons, List.drop_zero]
        exact List.take_of_length_le (by omega)
      rw [hq, Ux.tk_cons] at hr
      have HK := Lib.hid (And.intro hKL (And.intro hq hql))
      clear hg hKL hq h0
      by_cases b1 : b = 1
      · subst b1
        rw [if_pos rfl] at hr
        subst hr
        go_wp2
        go_returns
        exact ⟨rfl, TT.out⟩
      · rw [if_neg b1] at hr
        have b1' : ¬ (b.toNat : Int) = 1 := fun e => b1 (UInt8.toNat_inj.1 (by simpa using (by omega : b.toNat = 1)))
        by_cases b2 : b = 2
        · subst b2
          rw [if_pos rfl] at hr
          rcases Nat.eq_zero_or_pos n with hn0 | hn0
          · subst hn0
            have hq0 : q = [] := List.eq_nil_of_length_eq_zero HK.out.2.2
            rw [hq0] at hr
            have hr' : ((0 : Nat), (4 : Int)) = r := hr
            subst hr'
            clear hr
            go_wp2
            go_returns
            exact ⟨rfl, TT.out⟩
          · have h2 : 1 < K.size := by omega
            obtain ⟨y, hy⟩ : ∃ y : UInt8, K[1]'h2 = y := ⟨_, rfl⟩
            have hgy := Lib.data_getElem? K 1 h2
            rw [hy, HK.out.1, HK.out.2.1] at hgy
            obtain ⟨q', hq'⟩ : ∃ q', q = y :: q' := by
              cases q with
              | nil => simp at hgy
              | cons x q' => simp at hgy; exact ⟨q', by rw [hgy]⟩
            rw [hq'] at hr
            simp only at hr
            have hn1 : ¬ ((n : Int) + 1 < 2) := by omega
            clear hgy hq'
            by_cases hy1 : 1 < y.toNat
            · rw [if_pos hy1] at hr
              subst hr
              have hy2 : (1 : Int) < y.toNat := by omega
              go_wp2
              go_returns
              exact ⟨rfl, TT.out⟩
            · rw [if_neg hy1] at hr
              subst hr
              have hy2 : ¬ (1 : Int) < y.toNat := by omega
              go_wp2
              go_returns
              exact ⟨rfl, TT.out⟩
        · rw [if_neg b2] at hr
          have b2' : ¬ (b.toNat : Int) = 2 := fun e => b2 (UInt8.toNat_inj.1 (by simpa using (by omega : b.toNat = 2)))
          by_cases b3 : b = 3
          · subst b3
            rw [if_pos rfl] at hr
            rw [HK.out.2.2] at hr
            by_cases h8 : n < 8
            · rw [if_pos h8] at hr
              subst hr
              have h8' : (n : Int) + 1 < 9 := by omega
              go_wp2
              go_returns
              exact ⟨rfl, TT.out⟩
            · rw [if_neg h8] at hr
              subst hr
              have h8' : ¬ (n : Int) + 1 < 9 := by omega
              go_wp2
              go_returns
              exact ⟨rfl, TT.out⟩
          · rw [if_neg b3] at hr
            have b3' : ¬ (b.toNat : Int) = 3 := fun e => b3 (UInt8.toNat_inj.1 (by simpa using (by omega : b.toNat = 3)))
            by_cases b4 : b = 4
            · subst b4
              rw [if_pos rfl] at hr
              obtain ⟨T, hT⟩ : ∃ T : ByteArray, (⟨(Ux.une q [] 0).1.toArray⟩ : ByteArray) = T := ⟨_, rfl⟩
              obtain ⟨u, hu⟩ : ∃ u, (Ux.une q [] 0).2.1 = u := ⟨_, rfl⟩
              obtain ⟨c, hc⟩ : ∃ c, (Ux.une q [] 0).2.2 = c := ⟨_, rfl⟩
              have C10 : Hid (∀ w', Calls Tryd.prog 10 #[.string (K.extract 1 (n + 1))] w' fun e w'' => e = .returned (.tuple #[.string T, .int .i64 u, .int .i64 c]) ∧ Ux.Touch (fun _ => False) w' w'') := Lib.hid fun w' => by
                have := unescape10 (K.extract 1 (n + 1)) w' (by
                  have h2 : (K.extract 1 (n + 1)).data.toList.length = (K.extract 1 (n + 1)).size := Array.length_toList
                  rw [hex, HK.out.2.2] at h2
                  omega)
                rw [hex] at this
                unfold uneV at this
                rwa [hT, hu, hc] at this
              have hub : u ≤ 4000000 := by
                have := une_le q.length q [] 0 (Nat.le_refl _)
                rw [hu] at this
                have := HK.out.2.2
                omega
              have hub' : (u : Int) ≤ 4000000 := by omega
              rw [hc, hu] at hr
              clear hT hu hc hex
              by_cases hc0 : c = 0
              · rw [if_pos hc0] at hr
                subst hr
                subst hc0
                go_wp2_with (go_at_call 10; refine (C10.out _).mono ?_; rintro e w3 ⟨rfl, ht⟩)
                go_returns
                refine ⟨?_, TT.out.trans ht (fun _ _ h => h)⟩
                unfold tkV
                simp only [Int.natCast_add]
                rfl
              · rw [if_neg hc0] at hr
                subst hr
                go_wp2_with (go_at_call 10; refine (C10.out _).mono ?_; rintro e w3 ⟨rfl, ht⟩)
                go_returns
                exact ⟨rfl, TT.out.trans ht (fun _ _ h => h)⟩
            · rw [if_neg b4] at hr
              have b4' : ¬ (b.toNat : Int) = 4 := fun e => b4 (UInt8.toNat_inj.1 (by simpa using (by omega : b.toNat = 4)))
              subst hr
              go_wp2
              go_returns
              exact ⟨rfl, TT.out⟩

end Go.Proofs.YtlibbngcdeblmaaDoor
