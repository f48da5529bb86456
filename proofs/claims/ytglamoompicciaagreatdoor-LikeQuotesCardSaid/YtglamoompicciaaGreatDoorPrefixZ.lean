/- PART OF THE PROOF THAT THIS CLAIM HOLDS OF THE GIVEN PROGRAM, FOR EVERY INPUT THAT THE STATEMENT NAMES. No condition besides the statement's own. -/
import Derived.Test.YtglamoompicciaaGreatDoorFtZ
import Derived.Test.YtglamoompicciaaGreatDoorRows
import Derived.WalkKit
import Derived.Handy
import Derived.Laws.EntriesVeiled
import Derived.WalkSpells
import Derived.WalkLawsBesides
import Derived.BigQuiet
import Derived.Deep.QuietTactic
import Derived.Deep.Cut
import Derived.Deep.DeepCutAuto
import Derived.Lib.Overlaps
import Derived.Laws.Externs
import Derived.Lib.Hide
import Derived.Test.YtglamoompicciaaGreatDoorUxPlanAllZ
import Derived.Test.YtglamoompicciaaGreatDoorUxTreeAllZ
import Derived.Deep.LoopGhost
namespace Go.Proofs.YtglamoompicciaaGreatDoor
open Go.RowKit
open Go.RowKit
open Ux (Row iv sv bv)
open Ux.Sign (put)

theorem pref1_ (c : Int) (w : World) : Calls Tryz.prog 35 #[.int .i64 c] w fun e w' => e = .returned (.bool (decide (c < 0))) ∧ w' = w := by
  go_enter Tryz.func35, Tryz.ntmps35
  go_wp2
  go_ret
  exact ⟨rfl, rfl⟩

/-- where the first element is that stands for others -/
def idxNeg (l : List Int) : Int := match l.findIdx? (fun c => decide (c < 0)) with
  | some i => i
  | none => -1

set_option maxHeartbeats 2000000 in
set_option maxRecDepth 100000 in
theorem indexNeg_ (v : Value) (l : List Int) (lo : Nat) (w : World) (hR : Row w lo 3 v (iv l)) (hn : l.length ≤ 1000000000) :
    Calls Tryz.prog 34 #[v, .func (.func 35) #[] #[]] w fun e w' => e = .returned (.int .i64 (idxNeg l)) ∧ w' = w := by
  obtain ⟨a, c, rfl, hcell⟩ := hR.is
  obtain ⟨n, hnn⟩ : ∃ n, (iv l).length = n := ⟨_, rfl⟩
  rw [hnn]
  have hnl : l.length = n := by rw [← hnn, Ux.iv_length]
  have g0 : (n : Int) ≤ 1000000000 := by omega
  have HH := Lib.hid (And.intro hnl hcell)
  clear hnl hcell hR hnn hn
  go_enter Tryz.func34, Tryz.ntmps34
  go_wp2
  go_loopg [8] n (fun g s8 wr => ∃ i : Nat, s8 = .int .i64 i ∧ i + g = n ∧ wr = w ∧ Hid (∀ j x, j < i → l[j]? = some x → ¬ x < 0))
  case atStart => exact ⟨0, rfl, by omega, rfl, Lib.hid fun j x h => by omega⟩
  case round =>
    obtain ⟨i, rfl, hig, rfl, HI⟩ := hrel
    have p0 : (0 : Int) ≤ i := by omega
    by_cases hlt : i < n
    · obtain ⟨g', rfl⟩ : ∃ g', gk = g' + 1 := ⟨gk - 1, by omega⟩
      have j1 : (i : Int) < n := by omega
      obtain ⟨x, hx⟩ : ∃ x, l[i]? = some x := ⟨l[i]'(by have := HH.out.1; omega), List.getElem?_eq_getElem _⟩
      obtain ⟨g0', rfl, _, hc0⟩ := HH.out.2 i _ (Ux.iv_get hx)
      have CP := Lib.hid (pref1_ x)
      by_cases hx0 : x < 0
      · have d : decide (x < 0) = true := decide_eq_true hx0
        rw [d] at CP
        have hidx : idxNeg l = i := by
          unfold idxNeg
          have : l.findIdx? (fun c => decide (c < 0)) = some i := by
            rw [List.findIdx?_eq_some_iff_getElem]
            obtain ⟨hl, he⟩ := List.getElem?_eq_some_iff.1 hx
            refine ⟨hl, by rw [he]; exact d, fun j hj => ?_⟩
            simp only [decide_eq_true_eq]
            exact HI.out j _ hj (List.getElem?_eq_getElem (by omega))
          rw [this]
        have HX := Lib.hid hidx
        clear hidx hx d hx0
        go_wp2_with (go_at_call 35; refine (CP.out _).mono ?_; rintro e w' ⟨rfl, rfl⟩)
        go_ret
        refine ⟨?_, rfl⟩
        rw [HX.out]
        rfl
      · have d : decide (x < 0) = false := decide_eq_false hx0
        rw [d] at CP
        have HX := Lib.hid (And.intro hx hx0)
        clear hx d hx0
        go_wp2_with (go_at_call 35; refine (CP.out _).mono ?_; rintro e w' ⟨rfl, rfl⟩)
        go_roundg g'
        case measure => omega
        case rel =>
          refine ⟨i + 1, rfl, by omega, rfl, Lib.hid fun j y hj hy => ?_⟩
          by_cases h : j = i
          · subst h
            rw [HX.out.1] at hy
            cases hy
            exact HX.out.2
          · exact HI.out j y (by omega) hy
    · obtain rfl : i = n := by omega
      have j1 : ¬ (i : Int) < i := by omega
      have hidx : idxNeg l = -1 := by
        unfold idxNeg
        have : l.findIdx? (fun c => decide (c < 0)) = none := by
          rw [List.findIdx?_eq_none_iff]
          intro x hx
          obtain ⟨j, hj⟩ := List.mem_iff_getElem?.1 hx
          have := HI.out j x (by have := (List.getElem?_eq_some_iff.1 hj).1; have := HH.out.1; omega) hj
          simpa using this
        rw [this]
      have HX := Lib.hid hidx
      clear hidx hlt
      go_wp2
      go_ret
      refine ⟨?_, rfl⟩
      rw [HX.out]
      rfl

theorem idx_none {l : List Nat} : idxNeg (sv l) = -1 := by
  unfold idxNeg
  have : (sv l).findIdx? (fun c => decide (c < 0)) = none := by
    rw [List.findIdx?_eq_none_iff]
    intro x hx
    unfold sv at hx
    obtain ⟨c, _, rfl⟩ := List.mem_map.1 hx
    simp
  rw [this]
theorem idx_some {l : List Nat} {x : Int} {r : List Int} (hx : x < 0) : idxNeg (sv l ++ x :: r) = l.length := by
  unfold idxNeg
  have : (sv l ++ x :: r).findIdx? (fun c => decide (c < 0)) = some l.length := by
    rw [List.findIdx?_eq_some_iff_getElem]
    refine ⟨by simp [Ux.sv_length], ?_, fun j hj => ?_⟩
    · rw [List.getElem_append_right (by rw [Ux.sv_length]; exact Nat.le_refl _)]
      simp [Ux.sv_length, hx]
    · rw [List.getElem_append_left (by rw [Ux.sv_length]; exact hj)]
      unfold sv
      simp
  rw [this]

set_option maxHeartbeats 2000000 in
set_option maxRecDepth 100000 in
theorem prefix_ (v : Value) (l : List Nat) (r : List Int) (hr : r = [] ∨ ∃ x r', r = x :: r' ∧ x < 0) (hl : ∀ c ∈ l, c < 1114368) (lo : Nat) (w : World) (hR : Row w lo 3 v (iv (sv l ++ r))) (hn : (sv l ++ r).length ≤ 1000000) :
    Calls Tryz.prog 16 #[.agg #[v]] w fun e w' => e = .returned (.tuple #[.string ⟨(put l).toArray⟩, .bool r.isEmpty]) ∧ Ux.Touch (fun _ => False) w w' := by
  obtain ⟨B, hB⟩ : ∃ B, w.heap.size = B := ⟨_, rfl⟩
  obtain ⟨a, c, rfl, hcell⟩ := hR.is
  obtain ⟨n, hnn⟩ : ∃ n, (iv (sv l ++ r)).length = n := ⟨_, rfl⟩
  rw [hnn] at hR ⊢
  have T0 := (Ux.Touch.refl (fun _ => False) w).alloc (.cells #[.slice a n c] 35)
  obtain ⟨w1, hw1⟩ : ∃ w1, w.alloc (.cells #[.slice a n c] 35) = w1 := ⟨_, rfl⟩
  have h1 : w1.heap[B]? = some (.cells #[.slice a n c] 35 (0, 0)) := by rw [← hw1, ← hB]; exact heap_alloc_new w _
  rw [hw1] at T0
  have c0 : w1.cell? ⟨B, 0, none⟩ = some (.slice a n c) := by rw [cell_of_row w1 B 0 _ _ (0, 0) h1]; rfl
  have hR1 := hR.touch0 T0
  have hln : l.length ≤ 1000000 := by rw [List.length_append, Ux.sv_length] at hn; omega
  have CI := Lib.hid (indexNeg_ _ _ lo w1 hR1 (by omega))
  have HT := Lib.hid T0
  rcases hr with rfl | ⟨x, r', rfl, hx⟩
  · rw [List.append_nil] at hR1 CI
    rw [idx_none] at CI
    have CP := Lib.hid (putAll_ _ l lo w1 hR1 hl (by omega))
    clear hn hl hR hcell hR1 T0 h1 hnn
    go_enter Tryz.func16, Tryz.ntmps16
    go_wp2_with (go_at_call 34; refine CI.out.mono ?_; rintro e w' ⟨rfl, rfl⟩)
    go_wp2_with (go_at_call 36; fail)
    refine CP.out.mono ?_
    rintro e w2 ⟨rfl, T2⟩
    have HT2 := Lib.hid (HT.out.trans T2 fun _ _ f => f)
    clear T2
    go_wp2
    go_returns
    exact ⟨rfl, HT2.out⟩
  · rw [idx_some hx] at CI
    obtain ⟨k, hk⟩ : ∃ k, l.length = k := ⟨_, rfl⟩
    have ha : a ≠ none := by
      obtain ⟨g, rfl, _⟩ := hR1.at (j := k) (u := .int .i64 x) (by rw [← hk]; unfold iv sv; simp)
      simp
    have htk := hR1.take ha k (by rw [Ux.iv_length, List.length_append, Ux.sv_length]; omega)
    have e : (iv (sv l ++ x :: r')).take k = iv (sv l) := by
      rw [Ux.iv_append, List.take_left' (by rw [Ux.iv_length, Ux.sv_length, hk])]
    rw [e] at htk
    rw [hk] at CI
    have CP := Lib.hid (putAll_ _ l lo w1 htk hl (by omega))
    have k0 : ¬ ((k : Int) < 0) := by omega
    have k1 : k ≤ c := by
      rcases htk with ⟨h, _⟩ | ⟨g, c', cur, h, _, _, h3, _⟩
      · cases h; exact absurd rfl ha
      · cases h; rw [Ux.iv_length, Ux.sv_length, hk] at h3; exact h3
    have k2 : (k : Int) ≤ c := by omega
    clear hn hl hR hcell hR1 T0 h1 hnn htk e hk hx ha
    go_enter Tryz.func16, Tryz.ntmps16
    go_wp2_with (go_at_call 34; refine CI.out.mono ?_; rintro e w' ⟨rfl, rfl⟩)
    go_wp2_with (go_at_call 36; fail)
    refine CP.out.mono ?_
    rintro e w2 ⟨rfl, T2⟩
    have HT2 := Lib.hid (HT.out.trans T2 fun _ _ f => f)
    clear T2
    go_wp2
    go_returns
    exact ⟨rfl, HT2.out⟩

end Go.Proofs.YtglamoompicciaaGreatDoor
