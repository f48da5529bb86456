/- PART OF THE PROOF THAT THIS CLAIM HOLDS OF THE GIVEN PROGRAM, FOR EVERY INPUT THAT THE STATEMENT NAMES. No condition besides the statement's own. -/
import Derived.Test.YtdfgpminonpeaaaUxTreeAllZ
import Derived.Test.YtdfgpminonpeaaaSmallZ
import Derived.Test.YtdfgpminonpeaaaInsZ
import Derived.Test.YtdfgpminonpeaaaCloZ
import Derived.Test.YtdfgpminonpeaaaDelZ
import Derived.Test.YtdfgpminonpeaaaRows
import Derived.WalkKit
import Derived.Handy
import Derived.Laws.EntriesVeiled
import Derived.WalkSpells
import Derived.WalkLawsBesides
import Derived.BigQuiet
import Derived.Deep.QuietTactic
import Derived.Deep.Cut
import Derived.Lib.Overlaps
import Derived.Laws.Externs
import Derived.Lib.Hide
import Derived.Test.YtdfgpminonpeaaaUxPlanAllZ
import Derived.Deep.LoopGhost
namespace Go.Proofs.Ytdfgpminonpeaaa
open Go.RowKit
open Ux (slt lb has Rises T NodeAt NodesAt Shp wayN half1 half2 halfK blk ptr)

set_option maxHeartbeats 400000 in
theorem size_leaf (x n c : Nat) (ka : Option Addr) (w : World) (c0 : w.cell? ⟨x, 0, none⟩ = some (.slice ka n c)) (c2 : w.cell? ⟨x, 2, none⟩ = some (.slice none 0 0)) :
    Calls Try.prog 34 #[.pointer (some ⟨x, 0, none⟩)] w fun e w' => e = .returned (.int .i64 n) ∧ w = w' := by
  go_enter Try.func34, Try.ntmps34
  go_wp2
  go_ret
  exact ⟨rfl, rfl⟩

set_option maxHeartbeats 400000 in
theorem size_node (x n c : Nat) (ka : Addr) (w : World) (c2 : w.cell? ⟨x, 2, none⟩ = some (.slice (some ka) n c)) :
    Calls Try.prog 34 #[.pointer (some ⟨x, 0, none⟩)] w fun e w' => e = .returned (.int .i64 n) ∧ w = w' := by
  go_enter Try.func34, Try.ntmps34
  go_wp2
  go_ret
  exact ⟨rfl, rfl⟩

theorem blk3 {w : World} {x : Nat} {a b c : Value} {t : TypeId} (h : w.heap[x]? = some (.cells #[a, b, c] t (0, 0))) :
    w.cell? ⟨x, 0, none⟩ = some a ∧ w.cell? ⟨x, 1, none⟩ = some b ∧ w.cell? ⟨x, 2, none⟩ = some c ∧ (∀ i, w.frozen? ⟨x, i, none⟩ = false) := by
  refine ⟨?_, ?_, ?_, fun i => frozen_of_row w x i _ t h⟩ <;> simp [cell_of_row w x _ _ t (0, 0) h]

theorem size34 {t : T} {x : Nat} {fp : List Nat} (w : World) (h : NodeAt w t x fp) (hs : Shp t) : Calls Try.prog 34 #[.pointer (some ⟨x, 0, none⟩)] w fun e w' => e = .returned (.int .i64 t.size) ∧ w = w' := by
  cases t with
  | leaf l =>
    obtain ⟨kv, rv, h1, h2, h3, rfl⟩ := h
    obtain ⟨c0, _, c2, _⟩ := blk3 h1
    rcases h2.2 with ⟨rfl, h0⟩ | ⟨g, c, cur, rfl, _⟩
    · have := size_leaf x 0 0 none w c0 c2
      simp only [T.size, h0]
      exact this
    · exact size_leaf x _ c _ w c0 c2
  | node ks cs =>
    obtain ⟨kv, cv, xs, fs, h1, h2, h3, h4, rfl⟩ := h
    obtain ⟨_, _, c2, _⟩ := blk3 h1
    obtain ⟨g, c, cur, rfl, _⟩ := Ux.own_pos h3 (by have := hs.1; omega)
    exact size_node x _ c _ w c2

set_option maxHeartbeats 400000 in
theorem way33 (x : Nat) (kv : Value) (ks : List ByteArray) (k : ByteArray) (w : World) (c0 : w.cell? ⟨x, 0, none⟩ = some kv) (hown : w.ownsRow 0 9 1 kv ks.length (ks.map .string)) (hs : Rises ks) (hbig : ks.length < 2147483648) :
    Calls Try.prog 33 #[.pointer (some ⟨x, 0, none⟩), .string k] w fun e w' => e = .returned (.int .i64 (wayN ks k)) ∧ w = w' := by
  have hl := Ux.lb_le ks k
  cases hh : has ks k
  all_goals
    have HW : Hid (wayN ks k = lb ks k + if has ks k = true then 1 else 0) := rfl
    have HO := Lib.hid hown
    have HS := Lib.hid hs
    have HH := Lib.hid hh
    obtain ⟨p, hp⟩ : ∃ p, lb ks k = p := ⟨_, rfl⟩
    have HP := Lib.hid hp
    have hpb : p < 2147483648 := by omega
    clear hown hs hh hl hp
    go_enter Try.func33, Try.ntmps33
    go_wp2_with (go_at_call 30; refine (search30 _ ks _ _ HO.out HS.out (by omega)).mono ?_; rw [HH.out, HP.out]; rintro e w' ⟨rfl, rfl⟩)
    go_ret
    refine ⟨?_, rfl⟩
    rw [HW.out, HH.out, HP.out]
    simp

end Go.Proofs.Ytdfgpminonpeaaa
