/- PART OF THE PROOF THAT THIS CLAIM HOLDS OF THE GIVEN PROGRAM, FOR EVERY INPUT THAT THE STATEMENT NAMES. No condition besides the statement's own. -/
import Derived.Test.YtglamoompicciaaGreatDoorUxBuildZ
import Derived.Test.YtglamoompicciaaGreatDoorPutZ
import Derived.OwnWalk
import Derived.Test.YtglamoompicciaaGreatDoorRows
import Derived.WalkKit
import Derived.Handy
import Derived.Laws.EntriesVeiled
import Derived.WalkSpells
import Derived.WalkLawsBesides
import Derived.BigQuiet
import Derived.Deep.QuietTactic
import Derived.Deep.Cut
import Derived.Deep.DeepCutAuto
import Derived.Lib.Overlaps
import Derived.Laws.Externs
import Derived.Lib.Hide
import Derived.Test.YtglamoompicciaaGreatDoorUxPlanAllZ
import Derived.Test.YtglamoompicciaaGreatDoorUxTreeAllZ
import Derived.Deep.LoopGhost
namespace Go.Proofs.YtglamoompicciaaGreatDoor
open Go.RowKit
open Go.RowKit
open Ux (BAt bv)

theorem sizeBui : (Tryz.prog.info? 86).map (·.size) = some 2 := by kernel_rfl
theorem liesBui : liesAt Tryz.prog Tryz.prog.depth 86 (2 / Tryz.prog.cellsOf 86) 0 86 1 = true := by kernel_rfl
theorem tPB : Tryz.prog.underlying 83 = some (.pointer 86) := Tryz.underlying83
set_option maxHeartbeats 1000000 in
set_option maxRecDepth 100000 in
theorem check_used (b : Nat) (w : World) (h0 : w.cell? ⟨b, 0, none⟩ = some (.pointer (some ⟨b, 0, none⟩))) :
    Calls Tryz.prog 66 #[.pointer (some ⟨b, 0, none⟩)] w fun e w' => e = .returned (.tuple #[]) ∧ w' = w := by
  obtain ⟨j, hj, _⟩ := Option.map_eq_some_iff.1 sizeBui
  go_enter Tryz.func66, Tryz.ntmps66
  go_wp2
  rw [Lib.run_neq_ptr_same w _ tPB hj]
  go_wp2
  go_end0
  exact ⟨rfl, rfl⟩

set_option maxHeartbeats 1000000 in
set_option maxRecDepth 100000 in
theorem check_fresh (b : Nat) (w : World) (h0 : w.cell? ⟨b, 0, none⟩ = some (.pointer none)) (hsh : w.shape? b = some (86, 2)) (hfz : w.frozen? ⟨b, 0, none⟩ = false) :
    Calls Tryz.prog 66 #[.pointer (some ⟨b, 0, none⟩)] w fun e w' => e = .returned (.tuple #[]) ∧ w' = w.setCell ⟨b, 0, none⟩ (.pointer (some ⟨b, 0, none⟩)) := by
  obtain ⟨j, hj, hjs⟩ := Option.map_eq_some_iff.1 sizeBui
  go_enter Tryz.func66, Tryz.ntmps66
  go_wp2
  rw [Lib.run_to_unsafe w ⟨b, 0, none⟩ tPB Tryz.underlying179 hj (by rw [hjs]; decide) hsh (Nat.zero_lt_succ 1)]
  simp only [Result.andThen]
  rw [Oper.upon_value]
  go_wp2
  rw [run_callFunc_extern Tryz.func94 (by kernel_rfl) (by kernel_rfl) (by kernel_rfl) (e := Extern.AbiNoEscape.same) (by kernel_rfl)]
  rw [Lib.run_noEscape]
  simp only [Result.andThen]
  rw [Oper.upon_value]
  go_wp2
  rw [Lib.run_from_unsafe w ⟨b, 0, none⟩ Tryz.underlying179 tPB hj hsh liesBui]
  simp only [Result.andThen]
  rw [Oper.upon_value]
  go_wp2
  go_end0
  exact ⟨rfl, rfl⟩

theorem infoB2 : (Tryz.prog.info? 5).map (fun i => (i.zero, i.size, i.bytes)) = some (some (.int .u8 0), 1, 1) := by kernel_rfl
/-- copyCheck: the builder is used from then on -/
theorem check_ (w : World) (b lo : Nat) (l : List UInt8) (h : BAt 86 5 w b lo l) : Calls Tryz.prog 66 #[.pointer (some ⟨b, 0, none⟩)] w fun e w' => e = .returned (.tuple #[]) ∧
    (∃ v, w'.heap[b]? = some (.cells #[.pointer (some ⟨b, 0, none⟩), v] 86 (0, 0)) ∧ Ux.Grow w' lo 5 v (bv l)) ∧ Ux.Touch (fun k => k = b) w w' := by
  obtain ⟨hb, p, v, hh, hp, hG⟩ := h
  rcases hp with rfl | rfl
  · refine (check_fresh b w (by rw [cell_of_row w b 0 _ _ (0, 0) hh]; rfl) (by simp [World.shape?, hh]) (Ux.frozen_row hh 0)).mono ?_
    rintro e w' ⟨rfl, rfl⟩
    have T := (Ux.Touch.refl (fun k => k = b) w).setCell (p := ⟨b, 0, none⟩) (fun _ => rfl) (.pointer (some ⟨b, 0, none⟩))
    exact ⟨rfl, ⟨v, Ux.setCell_row hh 0 _, hG.touch T (fun k hk e => by omega)⟩, T⟩
  · refine (check_used b w (by rw [cell_of_row w b 0 _ _ (0, 0) hh]; rfl)).mono ?_
    rintro e w' ⟨rfl, rfl⟩
    exact ⟨rfl, ⟨v, hh, hG⟩, Ux.Touch.refl _ _⟩

set_option maxHeartbeats 2000000 in
set_option maxRecDepth 100000 in
theorem writeStr_ (w : World) (b lo : Nat) (l : List UInt8) (s : ByteArray) (h : BAt 86 5 w b lo l) (hlo : lo ≤ w.heap.size) (hlen : l.length + s.size ≤ 140737488355328) :
    Calls Tryz.prog 39 #[.pointer (some ⟨b, 0, none⟩), .string s] w fun e w' => e = .returned (.tuple #[.int .i64 s.size, .nilIface]) ∧ BAt 86 5 w' b lo (l ++ s.data.toList) ∧ Ux.Touch (fun k => k = b ∨ lo ≤ k) w w' := by
  have hbl := h.1
  have CK := Lib.hid (check_ w b lo l h)
  have HL := Lib.hid (And.intro hbl (And.intro hlo hlen))
  clear h hbl hlo hlen
  go_enter Tryz.func39, Tryz.ntmps39
  go_wp2_with (go_at_call 66; fail)
  refine CK.out.mono ?_
  rintro e w1 ⟨rfl, ⟨v, hh, hG⟩, T1⟩
  have hlo1 : lo ≤ w1.heap.size := Nat.le_trans HL.out.2.1 T1.size
  obtain ⟨r, w2, run2, hG2, t2⟩ := hG.appStr 84 9 Tryz.underlying84 Tryz.underlying9 infoB2 s hlo1 HL.out.2.2
  have hb2 : w2.heap[b]? = some (.cells #[.pointer (some ⟨b, 0, none⟩), v] 86 (0, 0)) := t2.heap hh (fun h => by have := h.1; have := HL.out.1; omega)
  have c1 : w1.cell? ⟨b, 1, none⟩ = some v := by rw [cell_of_row w1 b 1 _ _ (0, 0) hh]; rfl
  have d1 : w2.cell? ⟨b, 1, none⟩ = some v := by rw [cell_of_row w2 b 1 _ _ (0, 0) hb2]; rfl
  have f1 := Ux.frozen_row hb2 1
  obtain ⟨a, n, c, rfl, _⟩ := hG.is
  obtain ⟨a2, n2, c2, rfl, _⟩ := hG2.is
  have R2 := Lib.hid run2
  have HE := Lib.hid (And.intro hb2 (And.intro hG2 (And.intro T1 t2)))
  clear run2 hb2 hG2 hG hh T1 t2 hlo1
  go_wp2_with (at_builtin; refine Ux.wpList_app (v1 := .slice a n c) (x1 := .string s) rfl _ _ _ _ rfl rfl rfl (R2.out _) ?_)
  go_returns
  obtain ⟨hb2, hG2, T1, t2⟩ := HE.out
  have T3 := (Ux.Touch.refl (fun k => k = b) w2).setCell (p := ⟨b, 1, none⟩) (fun _ => rfl) (.slice a2 n2 c2)
  refine ⟨rfl, ⟨HL.out.1, _, _, Ux.setCell_row hb2 1 _, .inr rfl, hG2.touch T3 fun k hk e => by have := HL.out.1; omega⟩, ?_⟩
  exact ((T1.mono (R' := fun k => k = b ∨ lo ≤ k) fun _ _ h => .inl h).trans t2 fun _ _ h => .inr h.1).trans T3 fun _ _ h => .inl h

end Go.Proofs.YtglamoompicciaaGreatDoor
