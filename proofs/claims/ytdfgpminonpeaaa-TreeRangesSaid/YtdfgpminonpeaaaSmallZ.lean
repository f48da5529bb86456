/- PART OF THE PROOF THAT THIS CLAIM HOLDS OF THE GIVEN PROGRAM, FOR EVERY INPUT THAT THE STATEMENT NAMES. No condition besides the statement's own. -/
import Derived.Test.YtdfgpminonpeaaaRows
import Derived.WalkKit
import Derived.Handy
import Derived.Laws.EntriesVeiled
import Derived.WalkSpells
import Derived.WalkLawsBesides
import Derived.BigQuiet
import Derived.Deep.QuietTactic
import Derived.Deep.Cut
import Derived.Lib.Overlaps
import Derived.Laws.Externs
import Derived.Lib.Hide
import Derived.Test.YtdfgpminonpeaaaUxPlanAllZ
import Derived.Test.YtdfgpminonpeaaaUxTreeAllZ
import Derived.Deep.LoopGhost
namespace Go.Proofs.Ytdfgpminonpeaaa
open Go.RowKit
open Ux (slt lb has Rises)

set_option maxHeartbeats 400000 in
theorem isNaN56 (x : ByteArray) (w : World) : Calls Try.prog 56 #[.string x] w fun e w' => e = .returned (.bool false) ∧ w = w' := by
  go_enter Try.func56, Try.ntmps56
  go_wp2
  go_ret
  exact ⟨by simp, rfl⟩

set_option maxHeartbeats 400000 in
theorem isNaN45 (x : ByteArray) (w : World) : Calls Try.prog 45 #[.string x] w fun e w' => e = .returned (.bool false) ∧ w = w' := by
  go_enter Try.func45, Try.ntmps45
  go_wp2
  go_ret
  exact ⟨by simp, rfl⟩

set_option maxHeartbeats 400000 in
theorem less44 (x y : ByteArray) (w : World) : Calls Try.prog 44 #[.string x, .string y] w fun e w' => e = .returned (.bool (slt x y)) ∧ w = w' := by
  go_enter Try.func44, Try.ntmps44
  go_wp2_with (go_at_call 56; refine (isNaN56 _ _).mono ?_; rintro e w' ⟨rfl, rfl⟩)
  go_ret
  exact ⟨rfl, rfl⟩

set_option maxHeartbeats 2000000 in
set_option maxRecDepth 100000 in
theorem search30 (v : Value) (ks : List ByteArray) (x : ByteArray) (w : World) (hown : w.ownsRow 0 9 1 v ks.length (ks.map .string)) (hs : Rises ks) (hbig : ks.length < 4611686018427387904) :
    Calls Try.prog 30 #[v, .string x] w fun e w' => e = .returned (.tuple #[.int .i64 (lb ks x), .bool (has ks x)]) ∧ w = w' := by
  obtain ⟨n, hn⟩ : ∃ n, ks.length = n := ⟨_, rfl⟩
  obtain ⟨c, a, hv, hc⟩ : ∃ c a, v = .slice a n c ∧ ∀ j y, ks[j]? = some y → ∃ b, a = some ⟨b, 0, none⟩ ∧ w.cell? ⟨b, j, none⟩ = some (.string y) := by
    rw [hn] at hown
    rcases hown.2 with ⟨rfl, rfl⟩ | ⟨g, c, cur, rfl, _, hg, _, _, _, htk⟩
    · exact ⟨0, none, rfl, fun j y hj => by have := List.eq_nil_of_length_eq_zero hn; subst this; simp at hj⟩
    · exact ⟨c, some ⟨g, 0, none⟩, rfl, fun j y hj => ⟨g, rfl, Ux.row_cell hg htk j _ (by simp [hj])⟩⟩
  subst hv
  clear hown
  have hlen : ((ks.length : Nat) : Int) = n := by omega
  go_enter Try.func30, Try.ntmps30
  go_wp2
  go_loopg [7, 8] n (fun g s7 s8 wr => ∃ lo hi : Nat, s7 = .int .i64 lo ∧ s8 = .int .i64 hi ∧ lo ≤ hi ∧ hi ≤ n ∧ hi - lo ≤ g ∧ wr = w ∧ lo ≤ lb ks x ∧ lb ks x ≤ hi)
  case atStart => exact ⟨0, n, rfl, rfl, Nat.zero_le _, Nat.le_refl _, by omega, rfl, Nat.zero_le _, by have := Ux.lb_le ks x; omega⟩
  case round =>
    obtain ⟨lo, hi, rfl, rfl, hlh, hin, hg, rfl, hb1, hb2⟩ := hrel
    by_cases hlt : lo < hi
    · obtain ⟨g', rfl⟩ : ∃ g', gk = g' + 1 := ⟨gk - 1, by omega⟩
      have hm : ks[(lo + hi) / 2]? = some ks[(lo + hi) / 2] := List.getElem?_eq_getElem (by omega)
      obtain ⟨y, hy⟩ : ∃ y, ks[(lo + hi) / 2] = y := ⟨_, rfl⟩
      rw [hy] at hm
      obtain ⟨b, ha, cm⟩ := hc _ _ hm
      subst ha
      have hdn : slt y x = false → lb ks x ≤ (lo + hi) / 2 := fun h => by
        rcases Nat.lt_or_ge ((lo + hi) / 2) (lb ks x) with h' | h'
        · rw [Ux.lb_below ks x _ _ hm h'] at h; cases h
        · exact h'
      have hup : slt y x = true → (lo + hi) / 2 + 1 ≤ lb ks x := fun h => by
        rcases Nat.lt_or_ge ((lo + hi) / 2) (lb ks x) with h' | h'
        · exact h'
        · rw [Ux.lb_above hs x _ _ hm h'] at h; cases h
      clear hc hy hm hlen
      have HD := Lib.hid hdn
      have HU := Lib.hid hup
      have H1 := Lib.hid hb1
      have H2 := Lib.hid hb2
      clear hdn hup hb1 hb2
      cases hyx : slt y x
      · go_wp2_with (go_at_call 44; refine (less44 _ _ _).mono ?_; rintro e w' ⟨rfl, rfl⟩)
        go_roundg ((lo + hi) / 2 - lo)
        case measure => omega
        case rel => exact ⟨lo, (lo + hi) / 2, rfl, by rw [show ((lo : Int) + (hi : Int)) / 2 = (((lo + hi) / 2 : Nat) : Int) by omega], by omega, by omega, Nat.le_refl _, rfl, H1.out, HD.out hyx⟩
      · go_wp2_with (go_at_call 44; refine (less44 _ _ _).mono ?_; rintro e w' ⟨rfl, rfl⟩)
        go_roundg (hi - ((lo + hi) / 2 + 1))
        case measure => omega
        case rel => exact ⟨(lo + hi) / 2 + 1, hi, by rw [show ((lo : Int) + (hi : Int)) / 2 + 1 = (((lo + hi) / 2 + 1 : Nat) : Int) by omega], rfl, by omega, hin, Nat.le_refl _, rfl, HU.out hyx, H2.out⟩
    · have : hi = lo := by omega
      subst this
      have hI : lb ks x = hi := by omega
      have HI := Lib.hid hI
      by_cases hlt2 : hi < n
      · have hm : ks[hi]? = some ks[hi] := List.getElem?_eq_getElem (by omega)
        obtain ⟨y, hy⟩ : ∃ y, ks[hi] = y := ⟨_, rfl⟩
        rw [hy] at hm
        obtain ⟨b, ha, cm⟩ := hc _ _ hm
        subst ha
        have HM := Lib.hid hm
        clear hc hy hm hb1 hb2 hI hlen hn
        by_cases hyx : y = x
        · go_wp2_with (go_at_call 45; refine (isNaN45 _ _).mono ?_; rintro e w' ⟨rfl, rfl⟩)
          go_ret2
          refine ⟨?_, rfl⟩
          rw [show has ks x = true from by unfold has; rw [HI.out, HM.out, hyx]; simp, HI.out]
          first | rfl | simp [*]
        · have hne : (y.toList == x.toList) = false := by
            rw [beq_eq_false_iff_ne]
            intro h
            exact hyx (Ux.ba_ext h)
          have HF := Lib.hid (show has ks x = false from by unfold has; rw [HI.out, HM.out]; simp [hyx])
          go_wp2_with (go_at_call 45; refine (isNaN45 _ _).mono ?_; rintro e w' ⟨rfl, rfl⟩)
          all_goals
            (go_ret2
             refine ⟨?_, rfl⟩
             rw [HF.out, HI.out]
             first | rfl | simp [*])
      · have HF := Lib.hid (show has ks x = false from by unfold has; rw [HI.out, List.getElem?_eq_none (by omega)]; simp)
        clear hc hb1 hb2 hI hlen hn
        go_wp2_with (go_at_call 45; refine (isNaN45 _ _).mono ?_; rintro e w' ⟨rfl, rfl⟩)
        go_ret2
        refine ⟨?_, rfl⟩
        rw [HF.out, HI.out]
        first | rfl | simp [*]

end Go.Proofs.Ytdfgpminonpeaaa
