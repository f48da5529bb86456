/- PART OF THE PROOF THAT THIS CLAIM HOLDS OF THE GIVEN PROGRAM, FOR EVERY INPUT THAT THE STATEMENT NAMES. No condition besides the statement's own. -/
import Derived.Test.YtlibbngcdeblmaaDoorTurnZ
import Derived.Test.YtlibbngcdeblmaaDoorUxBytesZ
import Derived.Test.YtlibbngcdeblmaaDoorUxEscZ
import Derived.Test.YtlibbngcdeblmaaDoorUxPlanAllZ
import Derived.Deep.MidRow
import Derived.Deep.WholeRow
import Derived.Lib.IndexBytes
import Derived.Test.YtlibbngcdeblmaaDoorRows
import Derived.WalkKit
import Derived.Handy
import Derived.Laws.EntriesVeiled
import Derived.WalkSpells
import Derived.WalkLawsBesides
import Derived.BigQuiet
import Derived.Deep.QuietTactic
import Derived.Deep.Cut
import Derived.Deep.DeepCutAuto
import Derived.Lib.Overlaps
import Derived.Laws.Externs
import Derived.Lib.Hide
import Derived.Test.YtlibbngcdeblmaaDoorUxTreeAllZ
import Derived.Deep.LoopGhost
namespace Go.Proofs.YtlibbngcdeblmaaDoor
open Go.RowKit
-- imports: YtlibbngcdeblmaaDoorTurn UxBytes UxEsc UxApp Derived.Deep.MidRow Derived.Deep.WholeRow Derived.Lib.IndexBytes
open Go.RowKit

def bv (l : List UInt8) : List Value := l.map fun b => Value.int .u8 (b.toNat : Int)
theorem bv_length (l : List UInt8) : (bv l).length = l.length := by simp [bv]
theorem bv_append (a b : List UInt8) : bv (a ++ b) = bv a ++ bv b := by simp [bv]
theorem cell_newb (w : World) (c : Array Value) (ty : TypeId) (j : Nat) : (w.alloc (.cells c ty)).cell? ⟨w.heap.size, j, none⟩ = c[j]? := cell_of_row _ _ j c ty (0, 0) (heap_alloc_last w _)

theorem info5 : (Tryd.prog.info? 5).map (fun i => (i.zero, i.size, i.bytes)) = some (some (.int .u8 0), 1, 1) := by kernel_rfl
/-- append of some bytes that were just built -/
theorem app52 (v : Value) (xs : List UInt8) (w : World) (h : w.ownsRow 0 5 1 v xs.length (bv xs)) (hn : xs.length ≤ 100000000) (ys : List UInt8) (hy : ys.length ≤ 8) :
    ∃ r w', (∀ ty, (Builtin.append_ #[52, 52] ty #[v, .slice (some ⟨w.heap.size, 0, none⟩) ys.length ys.length]).run Tryd.prog (w.alloc (.cells (bv ys).toArray 5)) = .ok r w') ∧ w'.ownsRow 0 5 1 r (xs ++ ys).length (bv (xs ++ ys)) ∧ Ux.Touch (fun b => v.ownBlock = some b) w w' ∧ (r.ownBlock = v.ownBlock ∨ ∃ g, r.ownBlock = some g ∧ w.heap.size ≤ g) := by
  obtain ⟨i0, hi0, hz0, hz1, hz2⟩ := info_parts info5
  have ta : Ux.Touch (fun b => v.ownBlock = some b) w (w.alloc (.cells (bv ys).toArray 5)) := (Ux.Touch.refl _ w).alloc _
  have ta0 : Ux.Touch (fun _ => False) w (w.alloc (.cells (bv ys).toArray 5)) := (Ux.Touch.refl _ w).alloc _
  have src : Src Tryd.prog 1 52 (.slice (some ⟨w.heap.size, 0, none⟩) ys.length ys.length) ys.length (bv ys) (w.alloc (.cells (bv ys).toArray 5)) := Src.ofSlice _ Tryd.underlying52 ⟨w.heap.size, 0, none⟩ ys.length ys.length (bv ys) (by rw [bv_length, Nat.mul_one]) (fun j u hj => by
      have e : (⟨w.heap.size, 0, none⟩ : Addr).add j = ⟨w.heap.size, j, none⟩ := by rw [Addr.add_mid]; simp
      rw [e, cell_newb]
      simpa using hj) (fun u hu => by obtain ⟨b, _, rfl⟩ := List.mem_map.1 hu; rfl)
  have key := fun ty => Ux.run_app (P := Tryd.prog) (w.alloc (.cells (bv ys).toArray 5)) 52 ty 5 i0 (.int .u8 0) 1 1 Tryd.underlying52 hi0 hz0 hz1 hz2 rfl (by omega) v xs.length (bv xs) (Ux.own_touch h ta0 (fun _ _ h => h)) _ ys.length (bv ys) src (by simp only [maxLen]; omega) (by omega)
  obtain ⟨r, w', hr, ho, ht, hbk, _⟩ := key 52
  refine ⟨r, w', fun ty => hr, by rw [List.length_append, bv_append]; exact ho, ta.trans ht (fun _ _ h => h), hbk.imp id fun ⟨g, h1, h2⟩ => ⟨g, h1, by have := ta.size; omega⟩⟩
theorem app52one (v : Value) (xs : List UInt8) (w : World) (h : w.ownsRow 0 5 1 v xs.length (bv xs)) (hn : xs.length ≤ 100000000) (y : UInt8) :
    ∃ r w', (∀ ty, (Builtin.append_ #[52, 52] ty #[v, .slice (some ⟨w.heap.size, 0, none⟩) 1 1]).run Tryd.prog (w.alloc (.cells #[.int .u8 (y.toNat : Int)] 5)) = .ok r w') ∧ w'.ownsRow 0 5 1 r (xs ++ [y]).length (bv (xs ++ [y])) ∧ Ux.Touch (fun b => v.ownBlock = some b) w w' ∧ (r.ownBlock = v.ownBlock ∨ ∃ g, r.ownBlock = some g ∧ w.heap.size ≤ g) :=
  app52 v xs w h hn [y] (by simp)
/-- a row of bytes made a text -/
theorem conv52 {w : World} {v : Value} {xs : List UInt8} (h : w.ownsRow 0 5 1 v xs.length (bv xs)) : (convert 52 9 v).run Tryd.prog w = .ok (.string ⟨xs.toArray⟩) w := by
  rcases h.2 with ⟨rfl, h0⟩ | ⟨g, cap, cur, rfl, _, hh, _, _, _, ht⟩
  · have : xs = [] := List.eq_nil_of_length_eq_zero h0
    subst this
    have := run_convert_bytes_string (P := Tryd.prog) w 52 9 5 none 0 0 Tryd.underlying52 Tryd.underlying5 Tryd.underlying9
    rw [this]
    rfl
  · refine run_convert_bytes_back (P := Tryd.prog) w 52 9 5 ⟨g, 0, none⟩ cap xs Tryd.underlying52 Tryd.underlying5 Tryd.underlying9 fun j hj => ?_
    have e : (⟨g, 0, none⟩ : Addr).add j = ⟨g, j, none⟩ := by rw [Addr.add_mid]; simp
    rw [e]
    exact Ux.row_cell (xs := bv xs) hh (by simpa using ht) j _ (by unfold bv; rw [List.getElem?_map, List.getElem?_eq_getElem hj]; rfl)
theorem bytes_slice {w : World} {v : Value} {xs : List UInt8} (h : w.ownsRow 0 5 1 v xs.length (bv xs)) : ∃ (a : Option Addr) (c : Nat), v = .slice a xs.length c := by
  rcases h.2 with ⟨hv, h0⟩ | ⟨g, cap, cur, hv, _⟩
  · exact ⟨none, 0, by rw [hv, h0]⟩
  · exact ⟨_, _, hv⟩

end Go.Proofs.YtlibbngcdeblmaaDoor
