/- PART OF THE PROOF THAT THIS CLAIM HOLDS OF THE GIVEN PROGRAM, FOR EVERY INPUT THAT THE STATEMENT NAMES. No condition besides the statement's own. -/
import Derived.Test.YtlibbngcdeblmaaDoorTakeZ
import Derived.Test.YtlibbngcdeblmaaDoorRows
import Derived.WalkKit
import Derived.Handy
import Derived.Laws.EntriesVeiled
import Derived.WalkSpells
import Derived.WalkLawsBesides
import Derived.BigQuiet
import Derived.Deep.QuietTactic
import Derived.Deep.Cut
import Derived.Deep.DeepCutAuto
import Derived.Lib.Overlaps
import Derived.Laws.Externs
import Derived.Lib.Hide
import Derived.Test.YtlibbngcdeblmaaDoorUxPlanAllZ
import Derived.Test.YtlibbngcdeblmaaDoorUxTreeAllZ
import Derived.Deep.LoopGhost
namespace Go.Proofs.YtlibbngcdeblmaaDoor
open Go.RowKit
-- imports: YtlibbngcdeblmaaDoorTake
open Go.RowKit

/-- the row while it is filled -/
def tzer (l : List UInt8) (i : Nat) : List UInt8 := Ux.turn (l.take i) ++ List.replicate (l.length - i) 0
theorem tzer_length {l : List UInt8} {i : Nat} (h : i ≤ l.length) : (tzer l i).length = l.length := by
  unfold tzer Ux.turn; simp; omega
theorem tzer_step {l : List UInt8} {i : Nat} {x : UInt8} (h : l[i]? = some x) : (tzer l i).set i (255 - x) = tzer l (i + 1) := by
  have hi := (List.getElem?_eq_some_iff.1 h).1
  unfold tzer Ux.turn
  rw [List.take_add_one, h, List.map_append, List.append_assoc, List.set_append_right _ _ (by simp; omega)]
  have e : l.length - i = (l.length - (i + 1)) + 1 := by omega
  rw [e, List.replicate_succ]
  simp only [List.length_map, List.length_take]
  rw [show i - min i l.length = 0 by omega]
  rfl
theorem bv_set (l : List UInt8) (i : Nat) (x : UInt8) : (bv l).set i (.int .u8 (x.toNat : Int)) = bv (l.set i x) := by unfold bv; rw [List.map_set]

set_option maxHeartbeats 4000000 in
set_option maxRecDepth 100000 in
theorem turned22 (s : ByteArray) (w : World) (h0 : 0 < s.size) (hs : s.size ≤ 4000000) : Calls Tryd.prog 22 #[.string s] w fun e w' => e = .returned (.string ⟨(Ux.turn s.data.toList).toArray⟩) ∧ Ux.Touch (fun _ => False) w w' := by
  obtain ⟨i0, hi0, hz0, hz1, hz2⟩ := info_parts info5
  obtain ⟨n, hn⟩ : ∃ n, s.size = n := ⟨_, rfl⟩
  obtain ⟨l, hl⟩ : ∃ l, s.data.toList = l := ⟨_, rfl⟩
  have hll : l.length = n := by rw [← hl, ← hn]; exact Array.length_toList
  have hg : ∀ (i : Nat) (h : i < s.size), l[i]? = some s[i] := fun i h => by rw [← hl]; exact Lib.data_getElem? s i h
  rw [hl]
  have HH := Lib.hid (And.intro hll (And.intro hg hl))
  have j0 : (n : Int) ≤ 4000000 := by omega
  have j00 : (0 : Int) < n := by omega
  clear hll hg hl
  have hmk := run_make_row' (P := Tryd.prog) 52 5 (.int .u8 0) 1 Tryd.underlying52 info5 rfl .i64 .i64 n (by omega) (by omega) w
  obtain ⟨cur0, hcur0⟩ : ∃ c, madeCells #[Value.int .u8 0] n = c := ⟨_, rfl⟩
  have hc0 : cur0.toList = bv (tzer l 0) := by
    rw [← hcur0]
    unfold tzer bv Ux.turn
    rw [List.take_zero, List.map_nil, List.nil_append, List.map_replicate, Nat.sub_zero, HH.out.1]
    apply List.ext_getElem
    · simp [madeCells]
    · intro i h1 h2
      simp [madeCells, Nat.mod_one]
  rw [hcur0] at hmk
  obtain ⟨W, hW⟩ : ∃ W, w.alloc (.cells cur0 5) = W := ⟨_, rfl⟩
  have hblk : W.heap[w.heap.size]? = some (.cells cur0 5 (0, 0)) := by rw [← hW]; exact heap_alloc_last w _
  have hT : Ux.Touch (fun _ => False) w W := by rw [← hW]; exact (Ux.Touch.refl _ w).alloc _
  rw [hW] at hmk
  obtain ⟨g, hg⟩ : ∃ g, w.heap.size = g := ⟨_, rfl⟩
  rw [hg] at hmk hblk
  have HW := Lib.hid (And.intro hblk (And.intro hc0 (And.intro hT hg)))
  clear hblk hc0 hT hg hcur0 hW hi0 hz0 hz1 hz2
  go_enter Tryd.func22, Tryd.ntmps22
  go_wp2
  go_loopg [4] n (fun g' s4 wr => ∃ i : Nat, s4 = .int .i64 i ∧ i + g' = n ∧ Hid ((∃ cur, wr.heap[g]? = some (.cells cur 5 (0, 0)) ∧ cur.toList = bv (tzer l i)) ∧ Ux.Touch (fun _ => False) w wr))
  case atStart => exact ⟨0, rfl, by omega, Lib.hid ⟨⟨cur0, HW.out.1, HW.out.2.1⟩, HW.out.2.2.1⟩⟩
  case round =>
    obtain ⟨i, rfl, hig, HI⟩ := hrel
    have p0 : (0 : Int) ≤ i := by omega
    obtain ⟨⟨cur, hb, hcl⟩, hT⟩ := HI.out
    by_cases hlt : i < n
    · obtain ⟨g', rfl⟩ : ∃ g', gk = g' + 1 := ⟨gk - 1, by omega⟩
      have j1 : (i : Int) < n := by omega
      have his : i < s.size := by omega
      obtain ⟨x, hx⟩ : ∃ x : UInt8, s[i]'his = x := ⟨_, rfl⟩
      have hgx := HH.out.2.1 i his
      rw [hx] at hgx
      have hx1 : (x.toNat : Int) ≤ 255 := by have := x.toNat_lt; omega
      have hx0 : (0 : Int) ≤ x.toNat := by omega
      have hlen : cur.toList.length = n := by rw [hcl, bv_length, tzer_length (by have := HH.out.1; omega), HH.out.1]
      obtain ⟨u, hu⟩ : ∃ u, cur.toList[i]? = some u := ⟨cur.toList[i]'(by omega), List.getElem?_eq_getElem (by omega)⟩
      have c1 : wr.cell? ⟨g, i, none⟩ = some u := by rw [cell_of_row wr g i cur 5 (0, 0) hb]; simpa using hu
      have f1 := frozen_of_row wr g i cur 5 hb
      have HB := Lib.hid (And.intro hb (And.intro hcl (And.intro hT hgx)))
      clear hb hcl hT hgx hlen hu
      go_wp2
      go_roundg g'
      case measure => omega
      case rel =>
        obtain ⟨hb, hcl, hT, hgx⟩ := HB.out
        refine ⟨i + 1, rfl, by omega, Lib.hid ⟨⟨cur.setIfInBounds i (.int .u8 ((255 - x).toNat : Int)), ?_, ?_⟩, hT.setCell (fun h => by have := HW.out.2.2.2; simp only at h; omega) _⟩⟩
        · rw [u8_turn]; exact heap_setCell_same wr g i cur 5 _ hb
        · rw [Array.toList_setIfInBounds, hcl, bv_set, tzer_step hgx]
    · obtain rfl : i = n := by omega
      have q1 : ¬ (i : Int) < i := by omega
      have hfin : tzer l i = Ux.turn l := by
        unfold tzer
        rw [List.take_of_length_le (by have := HH.out.1; omega), HH.out.1, Nat.sub_self, List.replicate_zero, List.append_nil]
      have hlen : (Ux.turn l).length = i := by unfold Ux.turn; rw [List.length_map]; exact HH.out.1
      have hcb := run_convert_bytes_back (P := Tryd.prog) wr 52 9 5 ⟨g, 0, none⟩ i (Ux.turn l) Tryd.underlying52 Tryd.underlying5 Tryd.underlying9 (fun j hj => by
        have e : (⟨g, 0, none⟩ : Addr).add j = ⟨g, j, none⟩ := by rw [Addr.add_mid]; simp
        rw [e]
        refine Ux.row_cell (xs := bv (Ux.turn l)) (k := i) hb ?_ j _ (by unfold bv; rw [List.getElem?_map, List.getElem?_eq_getElem hj]; rfl)
        rw [hcl, hfin]
        exact List.take_of_length_le (by rw [bv_length]; omega))
      rw [hlen] at hcb
      have HT := Lib.hid hT
      clear hlt hfin hlen hb hcl hT
      go_wp2
      go_ret
      exact ⟨rfl, HT.out⟩

end Go.Proofs.YtlibbngcdeblmaaDoor
