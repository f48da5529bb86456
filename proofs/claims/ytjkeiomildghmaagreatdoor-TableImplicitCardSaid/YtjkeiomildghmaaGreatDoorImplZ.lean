/- PART OF THE PROOF THAT THIS CLAIM HOLDS OF THE GIVEN PROGRAM, FOR EVERY INPUT THAT THE STATEMENT NAMES. No condition besides the statement's own. -/
import Derived.Test.YtjkeiomildghmaaGreatDoorTableAZ
import Derived.Test.YtjkeiomildghmaaGreatDoorRows
import Derived.WalkKit
import Derived.Handy
import Derived.Laws.EntriesVeiled
import Derived.WalkSpells
import Derived.WalkLawsBesides
import Derived.BigQuiet
import Derived.Deep.QuietTactic
import Derived.Deep.Cut
import Derived.Deep.DeepCutAuto
import Derived.Lib.Overlaps
import Derived.Laws.Externs
import Derived.Lib.Hide
import Derived.Test.YtjkeiomildghmaaGreatDoorUxPlanAllZ
import Derived.Test.YtjkeiomildghmaaGreatDoorUxMemAZ
import Derived.Test.YtjkeiomildghmaaGreatDoorUxOrdZ
import Derived.Deep.LoopGhost
namespace Go.Proofs.YtjkeiomildghmaaGreatDoor
open Go.RowKit
open Go.RowKit
open Ux (Row iv sv bv ev eP eS eT eV implE)
open Ux.Sign (cp raw)

/-- the elements of any number -/
def implI (c : Int) : List Nat := if isI c then implE c.toNat else []
theorem isI_cp {c : Int} (h : isI c = true) : ∃ n : Nat, c = n ∧ (cp n ∨ raw n) ∧ n < 1114368 := by
  have h0 : 0 ≤ c := by unfold isI at h; simp at h; omega
  refine ⟨c.toNat, by omega, ?_, ?_⟩
  · have : isI (c.toNat : Int) = true := by rw [show ((c.toNat : Nat) : Int) = c by omega]; exact h
    rw [isI_nat] at this
    exact of_decide_eq_true this
  · unfold isI at h; simp at h; omega
theorem implI_len (c : Int) : (implI c).length = if isI c then 2 else 0 := by
  unfold implI
  split <;> rfl
theorem implI_lt (c : Int) : ∀ x ∈ implI c, x < 4294967296 := by
  unfold implI
  split
  · rename_i h
    obtain ⟨n, rfl, _, hn⟩ := isI_cp h
    rw [Int.toNat_natCast]
    exact Ux.implE_lt hn
  · intro x hx
    cases hx
theorem implG_ (c : Int) (w : World) : Calls Tryz.prog 9 #[.int .i64 c] w fun e w' => ∃ u, e = .returned u ∧ Row w' 0 30 u (ev (implI c)) ∧ Ux.Touch (fun _ => False) w w' := by
  cases h : isI c with
  | false =>
    refine (impl_no c h w).mono ?_
    rintro e w' ⟨rfl, rfl⟩
    unfold implI
    rw [h]
    exact ⟨_, rfl, Row.nil _ _ _, Ux.Touch.refl _ _⟩
  | true =>
    obtain ⟨n, rfl, hc, hn⟩ := isI_cp h
    refine (impl_ n hc hn w).mono ?_
    rintro e w' ⟨rfl, rfl⟩
    unfold implI
    rw [h, if_pos rfl, Int.toNat_natCast]
    exact ⟨_, rfl, ev_rowA w (implE n) 2 rfl, (Ux.Touch.refl _ w).alloc _⟩
theorem implE_rc (n : Nat) (h : n < 1114368) : eP (Ux.eMk (64256 + n / 32768) 32 2 false) = 64256 + n / 32768 ∧ eS (Ux.eMk (64256 + n / 32768) 32 2 false) = 32 ∧ eT (Ux.eMk (64256 + n / 32768) 32 2 false) = 2 ∧ eV (Ux.eMk (64256 + n / 32768) 32 2 false) = false ∧
    eP (Ux.eMk (32768 + n % 32768) 32 2 false) = 32768 + n % 32768 ∧ eS (Ux.eMk (32768 + n % 32768) 32 2 false) = 32 ∧ eT (Ux.eMk (32768 + n % 32768) 32 2 false) = 2 ∧ eV (Ux.eMk (32768 + n % 32768) 32 2 false) = false := by
  unfold eP eS eT eV Ux.eMk
  simp
  omega
set_option maxHeartbeats 4000000 in
set_option maxRecDepth 100000 in
theorem rimpl_ (n : Nat) (hc : cp n ∨ raw n) (hn : n < 1114368) (w : World) : Calls Tryz.prog 11 #[.int .i64 (n : Int)] w fun e w' => ∃ u, e = .returned u ∧ RRow w' u (implE n) ∧ Ux.Touch (fun _ => False) w w' := by
  have hs : isI (n : Int) = true := by rw [isI_nat]; exact decide_eq_true hc
  have h0 : (0 : Int) ≤ n := by omega
  have h1 : (n : Int) < 1114368 := by omega
  have HN := Lib.hid hn
  clear hc hn
  go_enter Tryz.func11, Tryz.ntmps11
  go_wp2_with (go_at_call 12; refine (rissign_ _ _).mono ?_; rintro e w' ⟨rfl, rfl⟩)
  go_ret
  obtain ⟨p0, p1, p2, p3, q0, q1, q2, q3⟩ := implE_rc n HN.out
  refine ⟨_, rfl, ⟨_, 2, rfl, fun i x hx => ⟨_, 0, rfl, ?_⟩⟩, (Ux.Touch.refl _ _).alloc _⟩
  simp only [Ux.cell_newg, Nat.zero_add]
  clear h1 h0 hs
  have hi : i = 0 ∨ i = 1 := by
    have := (List.getElem?_eq_some_iff.1 hx).1
    have e : (implE n).length = 2 := rfl
    omega
  rcases hi with rfl | rfl
  · have hx : some _ = some x := hx
    obtain rfl := Option.some.inj hx
    rw [p0, p1, p2, p3]
    refine ⟨?_, rfl, rfl, rfl⟩
    show some (Value.int .i64 _) = some (Value.int .i64 _)
    congr 2
  · have hx : some _ = some x := hx
    obtain rfl := Option.some.inj hx
    rw [q0, q1, q2, q3]
    refine ⟨?_, rfl, rfl, rfl⟩
    show some (Value.int .i64 _) = some (Value.int .i64 _)
    congr 2
set_option maxHeartbeats 2000000 in
theorem rimpl_no (c : Int) (hc : isI c = false) (w : World) : Calls Tryz.prog 11 #[.int .i64 c] w fun e w' => e = .returned (.slice none 0 0) ∧ w' = w := by
  go_enter Tryz.func11, Tryz.ntmps11
  go_wp2_with (go_at_call 12; refine (rissign_ _ _).mono ?_; rintro e w' ⟨rfl, rfl⟩)
  go_ret
  exact ⟨rfl, rfl⟩
theorem rimplG_ (c : Int) (w : World) : Calls Tryz.prog 11 #[.int .i64 c] w fun e w' => ∃ u, e = .returned u ∧ RRow w' u (implI c) ∧ Ux.Touch (fun _ => False) w w' := by
  cases h : isI c with
  | false =>
    refine (rimpl_no c h w).mono ?_
    rintro e w' ⟨rfl, rfl⟩
    unfold implI
    rw [h]
    exact ⟨_, rfl, RRow.nil _, Ux.Touch.refl _ _⟩
  | true =>
    obtain ⟨n, rfl, hc, hn⟩ := isI_cp h
    refine (rimpl_ n hc hn w).mono ?_
    rintro e w' ⟨u, rfl, h1, h2⟩
    refine ⟨u, rfl, ?_, h2⟩
    unfold implI
    rw [h, if_pos rfl, Int.toNat_natCast]
    exact h1

end Go.Proofs.YtjkeiomildghmaaGreatDoor
