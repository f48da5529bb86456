/- PART OF THE PROOF THAT THIS CLAIM HOLDS OF THE GIVEN PROGRAM, FOR EVERY INPUT THAT THE STATEMENT NAMES. No condition besides the statement's own. -/
import Derived.Test.YtdfgpminonpeaaaUxCurAllZ
import Derived.Test.YtdfgpminonpeaaaAwakeZ
import Derived.Test.YtdfgpminonpeaaaRows
import Derived.WalkKit
import Derived.Handy
import Derived.Laws.EntriesVeiled
import Derived.WalkSpells
import Derived.WalkLawsBesides
import Derived.BigQuiet
import Derived.Deep.QuietTactic
import Derived.Deep.Cut
import Derived.Lib.Overlaps
import Derived.Laws.Externs
import Derived.Lib.Hide
import Derived.Test.YtdfgpminonpeaaaUxPlanAllZ
import Derived.Test.YtdfgpminonpeaaaUxTreeAllZ
import Derived.Deep.LoopGhost
namespace Go.Proofs.Ytdfgpminonpeaaa
open Go.RowKit
-- imports: UxKeys YtdfgpminonpeaaaAwake
open Ux (slt lb has Rises keys)

/-- the cells of pairs -/
def prCells (l : List (ByteArray × Int)) : List Value := l.flatMap fun p => [.string p.1, .int .i64 p.2]
theorem prCells_length (l : List (ByteArray × Int)) : (prCells l).length = l.length * 2 := by
  induction l with
  | nil => rfl
  | cons p l ih => simp only [prCells, List.flatMap_cons, List.length_append, List.length_cons, List.length_nil] at ih ⊢; omega
theorem prCells_append (a b : List (ByteArray × Int)) : prCells (a ++ b) = prCells a ++ prCells b := by simp [prCells]
theorem prCells_at {l : List (ByteArray × Int)} {i : Nat} {p : ByteArray × Int} (h : l[i]? = some p) : (prCells l)[i * 2]? = some (.string p.1) ∧ (prCells l)[i * 2 + 1]? = some (.int .i64 p.2) := by
  have hi := (List.getElem?_eq_some_iff.1 h).1
  have e : l = l.take i ++ p :: l.drop (i + 1) := Ux.split_at h
  have hl : (prCells (l.take i)).length = i * 2 := by rw [prCells_length]; simp; omega
  rw [e, prCells_append]
  have hc : prCells (p :: l.drop (i + 1)) = .string p.1 :: .int .i64 p.2 :: prCells (l.drop (i + 1)) := rfl
  rw [hc]
  constructor
  · rw [List.getElem?_append_right (by omega), hl, Nat.sub_self]; rfl
  · rw [List.getElem?_append_right (by omega), hl, show i * 2 + 1 - i * 2 = 1 by omega]; rfl

/-- a list of pairs in memory -/
def PairsAt (w : World) (v : Value) (l : List (ByteArray × Int)) : Prop := w.ownsRow 0 52 2 v l.length (prCells l)

theorem PairsAt.cells {w : World} {v : Value} {l : List (ByteArray × Int)} (h : PairsAt w v l) : ∃ a c, v = .slice a l.length c ∧ ∀ i p, l[i]? = some p → ∃ g, a = some ⟨g, 0, none⟩ ∧ w.cell? ⟨g, i * 2, none⟩ = some (.string p.1) ∧ w.cell? ⟨g, i * 2 + 1, none⟩ = some (.int .i64 p.2) := by
  rcases h.2 with ⟨rfl, h0⟩ | ⟨g, c, cur, rfl, _, hg, _, _, _, htk⟩
  · exact ⟨none, 0, by rw [h0], fun i p hp => by have := (List.getElem?_eq_some_iff.1 hp).1; omega⟩
  · exact ⟨_, c, rfl, fun i p hp => ⟨g, rfl, Ux.row_cell hg htk _ _ (prCells_at hp).1, Ux.row_cell hg htk _ _ (prCells_at hp).2⟩⟩

set_option maxHeartbeats 2000000 in
set_option maxRecDepth 100000 in
theorem find28 (v : Value) (l : List (ByteArray × Int)) (k : ByteArray) (w : World) (h : PairsAt w v l) (hl : l.length ≤ 1048576) :
    Calls Try.prog 28 #[v, .string k] w fun e w' => e = .returned (.tuple #[.int .i64 (lb (keys l) k), .bool (has (keys l) k)]) ∧ w' = w.drew := by
  obtain ⟨a, c, rfl, hcell⟩ := h.cells
  have hlb := Ux.lb_le (keys l) k
  rw [Ux.keys_length] at hlb
  obtain ⟨n, hn⟩ : ∃ n, l.length = n := ⟨_, rfl⟩
  obtain ⟨b, hb⟩ : ∃ b, lb (keys l) k = b := ⟨_, rfl⟩
  have hhas : has (keys l) k = decide ((l[b]?).map (·.1) = some k) := by rw [← Ux.getElem?_keys, ← hb]; rfl
  have hlow : ∀ i p, l[i]? = some p → i < b → slt p.1 k = true := fun i p hp hi => Ux.lb_below (keys l) k i p.1 (by rw [Ux.getElem?_keys, hp]; rfl) (by rw [hb]; exact hi)
  have hat : ∀ p, l[b]? = some p → slt p.1 k = false := fun p hp => Ux.lb_at (keys l) k p.1 (by rw [hb, Ux.getElem?_keys, hp]; rfl)
  rw [hn] at hl hlb
  rw [hb] at hlb
  rw [hn, hb]
  have HC := Lib.hid hcell
  have HL := Lib.hid (And.intro hlow (And.intro hat (And.intro hhas (And.intro hn hlb))))
  have j0 : (n : Int) ≤ 1048576 := by omega
  clear hcell hlow hat hhas hn hb h hl hlb
  go_enter Try.func28, Try.ntmps28
  go_wp2
  go_loopg [6] b (fun g s6 wr => ∃ i : Nat, s6 = .int .i64 i ∧ i + g = b ∧ wr = w)
  case atStart => exact ⟨0, rfl, by omega, rfl⟩
  case round =>
    obtain ⟨i, rfl, hig, rfl⟩ := hrel
    have hib : i ≤ n := by have := HL.out.2.2.2.2; omega
    have p0 : (0 : Int) ≤ i := by omega
    rcases Nat.eq_zero_or_pos gk with h0 | h0
    · subst h0
      obtain rfl : i = b := by omega
      by_cases hlt : i < n
      · obtain ⟨p, hp⟩ : ∃ p, l[i]? = some p := ⟨l[i]'(by have := HL.out.2.2.2.1; omega), List.getElem?_eq_getElem _⟩
        obtain ⟨g, rfl, c0, _⟩ := HC.out i p hp
        have hnl : Op.bytesLess p.1.toList k.toList = false := HL.out.2.1 p hp
        have p1 : (i : Int) < n := by omega
        by_cases hk : p.1 = k
        · have HH := Lib.hid (show has (keys l) k = true from by rw [HL.out.2.2.1, hp]; simp [hk])
          subst hk
          clear hp hlt
          go_wp2
          refine Ux.wp_region_plan (fun _ w' => w'.cell? ⟨g, i * 2, none⟩ = some (.string p.1)) (.q [0, 1, 2, 3, 4, 5, 6, 7, 8, 9, 11, 14] (.h false [10] (.q [12, 13] (.line [15]))))
            (by kernel_rfl) (by kernel_rfl) (by intro _ _ d _ _ h; cases d <;> exact h) ?hS ?_
          case hS => (intro c; cases c <;> (simp only [World.cell?_drew]; first | exact True.intro | (refine ⟨?_, ?_⟩ <;> assumption) | assumption | (repeat (first | assumption | (refine And.intro ?_ ?_)))))
          simp only [Ux.wpPlan, Ux.pickOps, Ux.keeps, List.getElem?_toArray, List.getElem?_cons_succ, List.getElem?_cons_zero]
          repeat (first
            | go_big_quiet_step (fail)
            | (with_reducible refine wpQuiet_nil ?_)
            | (refine Ux.quiet_held rfl ?_; apply Exists.intro; refine ⟨fun w' hS => ?_, ?_⟩; (focus ((try dsimp only at hS); go_simp; first | done | with_reducible rfl)); simp only [Act.put, List.setIfInBounds_toArray, List.set_cons_zero, List.set_cons_succ]))
          go_wp2
          go_ret2
          rw [HH.out]
          exact ⟨rfl, rfl⟩
        · have HH := Lib.hid (show has (keys l) k = false from by rw [HL.out.2.2.1, hp]; simp [hk])
          have hne : (p.1.toList == k.toList) = false := by
            rw [beq_eq_false_iff_ne]
            intro h
            exact hk (Ux.ba_ext h)
          clear hp hlt hk
          go_wp2
          refine Ux.wp_region_plan (fun _ w' => w'.cell? ⟨g, i * 2, none⟩ = some (.string p.1)) (.q [0, 1, 2, 3, 4, 5, 6, 7, 8, 9, 11, 14] (.h false [10] (.q [12, 13] (.line [15]))))
            (by kernel_rfl) (by kernel_rfl) (by intro _ _ d _ _ h; cases d <;> exact h) ?hS ?_
          case hS => (intro c; cases c <;> (simp only [World.cell?_drew]; first | exact True.intro | (refine ⟨?_, ?_⟩ <;> assumption) | assumption | (repeat (first | assumption | (refine And.intro ?_ ?_)))))
          simp only [Ux.wpPlan, Ux.pickOps, Ux.keeps, List.getElem?_toArray, List.getElem?_cons_succ, List.getElem?_cons_zero]
          repeat (first
            | go_big_quiet_step (fail)
            | (with_reducible refine wpQuiet_nil ?_)
            | (refine Ux.quiet_held rfl ?_; apply Exists.intro; refine ⟨fun w' hS => ?_, ?_⟩; (focus ((try dsimp only at hS); go_simp; first | done | with_reducible rfl)); simp only [Act.put, List.setIfInBounds_toArray, List.set_cons_zero, List.set_cons_succ]))
          go_wp2
          go_ret2
          rw [HH.out]
          exact ⟨rfl, rfl⟩
      · have hie : i = n := by omega
        have HH := Lib.hid (show has (keys l) k = false from by rw [HL.out.2.2.1, List.getElem?_eq_none (by have := HL.out.2.2.2.1; omega)]; simp)
        have p1 : ¬ (i : Int) < n := by omega
        have q1 : decide (i < n) = false := by simp; omega
        clear hlt hie
        go_wp2
        refine Ux.wp_region_plan (fun _ _ => True) (.q [0, 1, 2, 3, 4, 5, 6, 7, 8, 9, 11, 14] (.h false [10] (.q [12, 13] (.line [15]))))
          (by kernel_rfl) (by kernel_rfl) (by intro _ _ d _ _ h; cases d <;> exact h) ?hS ?_
        case hS => (intro c; cases c <;> (simp only [World.cell?_drew]; first | exact True.intro | (refine ⟨?_, ?_⟩ <;> assumption) | assumption | (repeat (first | assumption | (refine And.intro ?_ ?_)))))
        simp only [Ux.wpPlan, Ux.pickOps, Ux.keeps, List.getElem?_toArray, List.getElem?_cons_succ, List.getElem?_cons_zero]
        repeat (first
          | go_big_quiet_step (fail)
          | (with_reducible refine wpQuiet_nil ?_)
          | (refine Ux.quiet_held rfl ?_; apply Exists.intro; refine ⟨fun w' hS => ?_, ?_⟩; (focus ((try dsimp only at hS); go_simp; first | done | with_reducible rfl)); simp only [Act.put, List.setIfInBounds_toArray, List.set_cons_zero, List.set_cons_succ]))
        go_wp2
        go_ret2
        rw [HH.out]
        exact ⟨rfl, rfl⟩
    · obtain ⟨g', rfl⟩ : ∃ g', gk = g' + 1 := ⟨gk - 1, by omega⟩
      have hlt : i < n := by have := HL.out.2.2.2.2; omega
      obtain ⟨p, hp⟩ : ∃ p, l[i]? = some p := ⟨l[i]'(by have := HL.out.2.2.2.1; omega), List.getElem?_eq_getElem _⟩
      obtain ⟨g, rfl, c0, _⟩ := HC.out i p hp
      have hnl : Op.bytesLess p.1.toList k.toList = true := HL.out.1 i p hp (by omega)
      have p1 : (i : Int) < n := by omega
      clear hp hlt
      go_wp2
      go_roundg g'
      case measure => omega
      case rel => exact ⟨i + 1, by go_num, by omega, rfl⟩

end Go.Proofs.Ytdfgpminonpeaaa
