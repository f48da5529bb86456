/- PART OF THE PROOF THAT THIS CLAIM HOLDS OF THE GIVEN PROGRAM, FOR EVERY INPUT THAT THE STATEMENT NAMES. No condition besides the statement's own. -/
import Derived.Test.YtlibbngcdeblmaaDoorEscapeZ
import Derived.Test.YtlibbngcdeblmaaDoorRows
import Derived.WalkKit
import Derived.Handy
import Derived.Laws.EntriesVeiled
import Derived.WalkSpells
import Derived.WalkLawsBesides
import Derived.BigQuiet
import Derived.Deep.QuietTactic
import Derived.Deep.Cut
import Derived.Deep.DeepCutAuto
import Derived.Lib.Overlaps
import Derived.Laws.Externs
import Derived.Lib.Hide
import Derived.Test.YtlibbngcdeblmaaDoorUxPlanAllZ
import Derived.Test.YtlibbngcdeblmaaDoorUxTreeAllZ
import Derived.Deep.LoopGhost
namespace Go.Proofs.YtlibbngcdeblmaaDoor
open Go.RowKit
-- imports: YtlibbngcdeblmaaDoorEscape
open Go.RowKit

/-- what val.Ok lets through (the part that is needed) -/
def okV (k n : Int) : Prop := k = 0 ∨ (k = 1 ∧ (n = 0 ∨ n = 1)) ∨ k = 2 ∨ k = 3

set_option maxHeartbeats 4000000 in
set_option maxRecDepth 100000 in
theorem ok28 (k n : Int) (s : ByteArray) (w : World) : Calls Tryd.prog 28 #[.agg #[.int .i64 k, .int .i64 n, .string s]] w fun e w' => ∃ b, e = .returned (.bool b) ∧ (b = true → okV k n) ∧ w' = w.alloc (.cells #[.int .i64 k, .int .i64 n, .string s] 36) := by
  go_enter Tryd.func28, Tryd.ntmps28
  go_wp2
  all_goals go_returns
  all_goals
    refine ⟨_, rfl, fun hb => ?_, ?_⟩
    · unfold okV
      simp_all
    · simp_all

set_option maxHeartbeats 4000000 in
set_option maxRecDepth 100000 in
theorem is23 (k n : Int) (s : ByteArray) (w : World) : Calls Tryd.prog 23 #[.agg #[.int .i64 k, .int .i64 n, .string s]] w fun e w' => ∃ k' n' s', e = .returned (.agg #[.int .i64 k', .int .i64 n', .string s']) ∧ okV k' n' ∧ s'.size ≤ s.size ∧ Ux.Touch (fun _ => False) w w' := by
  have c28 := Lib.hid ok28
  go_enter Tryd.func23, Tryd.ntmps23
  go_wp2_with (go_at_call 28; fail)
  refine (c28.out k n s _).mono ?_
  rintro e w2 ⟨b, rfl, hb, rfl⟩
  cases b with
  | false =>
    clear hb
    go_wp2
    go_returns
    exact ⟨0, 0, ⟨#[]⟩, rfl, .inl rfl, Nat.zero_le _, ((((Ux.Touch.refl _ w).alloc _).alloc _).alloc _).alloc _⟩
  | true =>
    have H := Lib.hid (hb rfl)
    clear hb
    go_wp2
    go_returns
    exact ⟨k, n, s, rfl, H.out, Nat.le_refl _, (((Ux.Touch.refl _ w).alloc _).alloc _).alloc _⟩

theorem turn30 (n : Int) (w : World) : Calls Tryd.prog 30 #[.int .i64 n] w fun e w' => ∃ x, e = .returned (.int .u64 x) ∧ w' = w := by
  go_enter Tryd.func30, Tryd.ntmps30
  go_wp2
  go_returns
  exact ⟨_, rfl, rfl⟩

theorem to_u8 (v : Int) (h0 : 0 ≤ v) (h1 : v ≤ 255) : ∃ x : UInt8, v = (x.toNat : Int) := ⟨UInt8.ofNat v.toNat, by rw [UInt8.toNat_ofNat']; omega⟩

set_option maxHeartbeats 4000000 in
set_option maxRecDepth 100000 in
theorem number24 (n : Int) (w : World) : Calls Tryd.prog 24 #[.int .i64 n] w fun e w' => ∃ s : ByteArray, e = .returned (.string s) ∧ s.size = 8 ∧ Ux.Touch (fun _ => False) w w' := by
  have c30 := Lib.hid (turn30 n w)
  obtain ⟨g, hg⟩ : ∃ g, w.heap.size = g := ⟨_, rfl⟩
  go_enter Tryd.func24, Tryd.ntmps24
  go_wp2_with (go_at_call 30; fail)
  refine c30.out.mono ?_
  rintro e w2 ⟨u, rfl, rfl⟩
  go_wp2
  obtain ⟨W, hW⟩ : ∃ W, w2.alloc (.cells #[.int .u8 0, .int .u8 0, .int .u8 0, .int .u8 0, .int .u8 0, .int .u8 0, .int .u8 0, .int .u8 0] 67) = W := ⟨_, rfl⟩
  rw [hW]
  have h0 : ∃ l : List UInt8, l.length = 8 ∧ (∀ (j : Nat) (x : UInt8), l[j]? = some x → W.cell? ⟨g, j, none⟩ = some (.int .u8 (x.toNat : Int))) ∧ (∀ j, j < 8 → W.frozen? ⟨g, j, none⟩ = false) ∧ Ux.Touch (fun _ => False) w2 W := by
    have hr : W.heap[g]? = some (.cells (bv (List.replicate 8 0)).toArray 67 (0, 0)) := by rw [← hW, ← hg]; exact heap_alloc_new w2 _
    refine ⟨List.replicate 8 0, rfl, fun j x hx => ?_, fun j hj => frozen_of_row W g j _ 67 hr, by rw [← hW]; exact (Ux.Touch.refl _ w2).alloc _⟩
    rw [cell_of_row W g j _ 67 (0, 0) hr]
    rw [List.getElem?_toArray, bv, List.getElem?_map, hx]
    rfl
  have H0 := Lib.hid h0
  have HG := Lib.hid hg
  clear h0 hW hg
  go_loopg [8] 8 (fun g' s8 wr => ∃ i : Nat, s8 = .int .i64 i ∧ i + g' = 8 ∧ Hid (∃ l : List UInt8, l.length = 8 ∧ (∀ (j : Nat) (x : UInt8), l[j]? = some x → wr.cell? ⟨g, j, none⟩ = some (.int .u8 (x.toNat : Int))) ∧ (∀ j, j < 8 → wr.frozen? ⟨g, j, none⟩ = false) ∧ Ux.Touch (fun _ => False) w2 wr))
  case atStart => exact ⟨0, rfl, by omega, Lib.hid H0.out⟩
  case round =>
    obtain ⟨i, rfl, hig, HI⟩ := hrel
    obtain ⟨l, l1, l2, l3, l4⟩ := HI.out
    have HL := Lib.hid (And.intro l1 (And.intro l2 (And.intro l3 l4)))
    clear l1 l2 l3 l4 HI H0
    have p0 : (0 : Int) ≤ i := by omega
    by_cases hlt : i < 8
    · obtain ⟨g', rfl⟩ : ∃ g', gk = g' + 1 := ⟨gk - 1, by omega⟩
      have j1 : (i : Int) < 8 := by omega
      have c1 := HL.out.2.1 i _ (List.getElem?_eq_getElem (by have := HL.out.1; omega))
      have f1 := HL.out.2.2.1 i hlt
      go_wp2
      go_roundg g'
      case measure => omega
      case rel =>
        obtain ⟨y, hy⟩ := to_u8 (u / 2 ^ (8 * (7 - i)) % 256) (by omega) (by omega)
        rw [hy]
        refine ⟨i + 1, rfl, by omega, Lib.hid ⟨l.set i y, by rw [List.length_set]; exact HL.out.1, fun j x hx => ?_, fun j hj => by simpa using HL.out.2.2.1 j hj, HL.out.2.2.2.setCell (fun h => by have := HG.out; simp only at h; omega) _⟩⟩
        rw [List.getElem?_set] at hx
        by_cases e : i = j
        · subst e
          rw [if_pos rfl] at hx
          split at hx
          · cases hx
            rw [World.cell?_setCell_same _ _ _ c1]
          · cases hx
        · rw [if_neg e] at hx
          rw [World.cell?_setCell_other _ _ _ _ (fun h => e (congrArg Addr.off h))]
          exact HL.out.2.1 j x hx
    · obtain rfl : i = 8 := by omega
      have q1 : ¬ ((8 : Nat) : Int) < 8 := by omega
      have hcb := run_convert_bytes_back (P := Tryd.prog) wr 52 9 5 ⟨g, 0, none⟩ 8 l Tryd.underlying52 Tryd.underlying5 Tryd.underlying9 (fun j hj => by
        have e : (⟨g, 0, none⟩ : Addr).add j = ⟨g, j, none⟩ := by unfold Addr.add; split <;> simp_all
        rw [e]
        exact HL.out.2.1 j _ (List.getElem?_eq_getElem hj))
      rw [HL.out.1] at hcb
      go_wp2
      go_ret
      exact ⟨_, rfl, (by show l.toArray.size = 8; simpa using HL.out.1), HL.out.2.2.2⟩

end Go.Proofs.YtlibbngcdeblmaaDoor
