/- PART OF THE PROOF THAT THIS CLAIM HOLDS OF THE GIVEN PROGRAM, FOR EVERY INPUT THAT THE STATEMENT NAMES. No condition besides the statement's own. -/
import Derived.Test.YtlibbngcdeblmaaDoorRowZ
import Derived.Test.YtlibbngcdeblmaaDoorUxTakeZ
import Derived.Test.YtlibbngcdeblmaaDoorUxTreeAllZ
import Derived.Laws.IdiomStrings
import Derived.Test.YtlibbngcdeblmaaDoorRows
import Derived.WalkKit
import Derived.Handy
import Derived.Laws.EntriesVeiled
import Derived.WalkSpells
import Derived.WalkLawsBesides
import Derived.BigQuiet
import Derived.Deep.QuietTactic
import Derived.Deep.Cut
import Derived.Deep.DeepCutAuto
import Derived.Lib.Overlaps
import Derived.Laws.Externs
import Derived.Lib.Hide
import Derived.Test.YtlibbngcdeblmaaDoorUxPlanAllZ
import Derived.Deep.LoopGhost
namespace Go.Proofs.YtlibbngcdeblmaaDoor
open Go.RowKit
-- imports: YtlibbngcdeblmaaDoorRow UxTake UxHeap Derived.Laws.IdiomStrings
open Go.RowKit

/-- the bytes of a block while the first of them are turned -/
def tmid (s : List UInt8) (i : Nat) : List UInt8 := (s.take i).map (fun c => 255 - c) ++ s.drop i
theorem tmid_length (s : List UInt8) (i : Nat) : (tmid s i).length = s.length := by simp [tmid]; omega
theorem tmid_get {s : List UInt8} {i : Nat} {x : UInt8} (h : s[i]? = some x) : (tmid s i)[i]? = some x := by
  have hi := (List.getElem?_eq_some_iff.1 h).1
  unfold tmid
  rw [List.getElem?_append_right (by simp; omega), List.getElem?_drop]
  simp only [List.length_map, List.length_take]
  rw [show i + (i - min i s.length) = i by omega, h]
theorem tmid_step {s : List UInt8} {i : Nat} {x : UInt8} (h : s[i]? = some x) : (tmid s i).set i (255 - x) = tmid s (i + 1) := by
  have hi := (List.getElem?_eq_some_iff.1 h).1
  unfold tmid
  rw [List.take_add_one, h, List.map_append, List.append_assoc]
  have hd : s.drop i = x :: s.drop (i + 1) := by rw [List.drop_eq_getElem_cons hi, (List.getElem?_eq_some_iff.1 h).2]
  rw [List.set_append_right _ _ (by simp; omega), hd]
  simp only [List.length_map, List.length_take]
  rw [show i - min i s.length = 0 by omega]
  rfl

theorem u8_turn (x : UInt8) : ((255 - x).toNat : Int) = 255 - (x.toNat : Int) := by
  have := x.toNat_lt
  rw [UInt8.toNat_sub]
  have e : (255 : UInt8).toNat = 255 := rfl
  rw [e]
  omega

set_option maxHeartbeats 4000000 in
set_option maxRecDepth 100000 in
theorem turn21 (s : ByteArray) (w : World) (hs : s.size ≤ 9223372036854775807) : Calls Tryd.prog 21 #[.string s] w fun e w' => e = .returned (.string ⟨(Ux.turn s.data.toList).toArray⟩) ∧ Ux.Touch (fun _ => False) w w' := by
  have hrun := run_bytes_of_string (P := Tryd.prog) w 9 52 5 s Tryd.underlying9 Tryd.underlying52 Tryd.underlying5
  obtain ⟨n, hn⟩ : ∃ n, s.size = n := ⟨_, rfl⟩
  obtain ⟨l, hl⟩ : ∃ l, s.data.toList = l := ⟨_, rfl⟩
  have hll : l.length = n := by rw [← hl, ← hn]; simp
  obtain ⟨cap, hcap⟩ : ∃ cap, grownCap w s.size 0 5 = cap := ⟨_, rfl⟩
  have hcge : n ≤ cap := by rw [← hcap, ← hn]; exact grownCap_ge w s.size 0 5
  rw [hcap] at hrun
  obtain ⟨W, hW⟩ : ∃ W, w.drew.alloc (.cells (bytesRow s cap) 5 ((bytesRow s cap).size, (bytesRow s cap).size + 1)) = W := ⟨_, rfl⟩
  have hbs : n ≤ (bytesRow s cap).size := by
    unfold bytesRow
    rw [Array.size_append, Array.size_map]
    have : s.data.size = s.size := rfl
    omega
  have hcell : ∀ (j : Nat) (x : UInt8), l[j]? = some x → W.cell? ⟨w.heap.size, j, none⟩ = some (.int .u8 (x.toNat : Int)) := fun j x hx => by
    rw [← hl] at hx
    obtain ⟨hj, e⟩ := List.getElem?_eq_some_iff.1 hx
    have hj' : j < s.data.size := by simpa using hj
    have := World.cell?_alloc_mark w.drew (bytesRow s cap) 5 ((bytesRow s cap).size, (bytesRow s cap).size + 1) j
    rw [hW] at this
    rw [show w.drew.heap.size = w.heap.size from rfl] at this
    rw [this, bytesRow_at s cap j hj']
    rw [← e]
    simp
  have hfr : ∀ j, j < n → W.frozen? ⟨w.heap.size, j, none⟩ = false := fun j hj => by
    have := World.frozen?_alloc_mark w.drew (bytesRow s cap) 5 (bytesRow s cap).size ((bytesRow s cap).size + 1) j
    rw [hW] at this
    rw [show w.drew.heap.size = w.heap.size from rfl] at this
    rw [this]
    simp
    omega
  have hT : Ux.Touch (fun _ => False) w W := by rw [← hW]; exact ((Ux.Touch.refl _ w).drew).alloc _
  rw [hW, hn] at hrun
  obtain ⟨g, hg⟩ : ∃ g, w.heap.size = g := ⟨_, rfl⟩
  rw [hg] at hrun hcell hfr
  have j0 : (n : Int) ≤ 9223372036854775807 := by omega
  have HH := Lib.hid (And.intro hcell (And.intro hfr (And.intro hT (And.intro hll (And.intro hcge hg)))))
  rw [hl]
  clear hcell hfr hT hll hcge hW hbs hcap hl hg hs
  go_enter Tryd.func21, Tryd.ntmps21
  go_wp2
  go_loopg [10] n (fun g' s10 wr => ∃ i : Nat, s10 = .int .i64 i ∧ i + g' = n ∧ Hid ((∀ (j : Nat) (x : UInt8), (tmid l i)[j]? = some x → wr.cell? ⟨g, j, none⟩ = some (.int .u8 (x.toNat : Int))) ∧ (∀ j, j < n → wr.frozen? ⟨g, j, none⟩ = false) ∧ Ux.Touch (fun _ => False) w wr))
  case atStart => exact ⟨0, rfl, by omega, Lib.hid ⟨fun j x hx => HH.out.1 j x (by simpa [tmid] using hx), HH.out.2.1, HH.out.2.2.1⟩⟩
  case round =>
    obtain ⟨i, rfl, hig, HI⟩ := hrel
    have p0 : (0 : Int) ≤ i := by omega
    by_cases hlt : i < n
    · obtain ⟨g', rfl⟩ : ∃ g', gk = g' + 1 := ⟨gk - 1, by omega⟩
      have j1 : (i : Int) < n := by omega
      obtain ⟨x, hx⟩ : ∃ x, l[i]? = some x := ⟨l[i]'(by have := HH.out.2.2.2.1; omega), List.getElem?_eq_getElem (by have := HH.out.2.2.2.1; omega)⟩
      have c1 := HI.out.1 i x (tmid_get hx)
      have f1 := HI.out.2.1 i hlt
      have hx1 : (x.toNat : Int) ≤ 255 := by have := x.toNat_lt; omega
      have hx0 : (0 : Int) ≤ x.toNat := by omega
      have HX := Lib.hid hx
      clear hx
      go_wp2
      go_roundg g'
      case measure => omega
      case rel =>
        refine ⟨i + 1, rfl, by omega, Lib.hid ⟨fun j y hy => ?_, fun j hj => by simpa using HI.out.2.1 j hj, HI.out.2.2.setCell (fun h => by have := HH.out.2.2.2.2.2; simp only at h; omega) _⟩⟩
        rw [← tmid_step HX.out, List.getElem?_set] at hy
        by_cases e : i = j
        · subst e
          rw [if_pos rfl] at hy
          split at hy
          · cases hy
            rw [World.cell?_setCell_same _ _ _ c1, u8_turn]
          · cases hy
        · rw [if_neg e] at hy
          rw [World.cell?_setCell_other _ _ _ _ (fun h => e (congrArg Addr.off h))]
          exact HI.out.1 j y hy
    · obtain rfl : i = n := by omega
      have q1 : ¬ (i : Int) < i := by omega
      have hfin : tmid l i = Ux.turn l := by
        unfold tmid Ux.turn
        rw [List.take_of_length_le (by have := HH.out.2.2.2.1; omega), List.drop_of_length_le (by have := HH.out.2.2.2.1; omega), List.append_nil]
      have hlen : (Ux.turn l).length = i := by unfold Ux.turn; rw [List.length_map]; exact HH.out.2.2.2.1
      have hcb := run_convert_bytes_back (P := Tryd.prog) wr 52 9 5 ⟨g, 0, none⟩ cap (Ux.turn l) Tryd.underlying52 Tryd.underlying5 Tryd.underlying9 (fun j hj => by
        have e : (⟨g, 0, none⟩ : Addr).add j = ⟨g, j, none⟩ := by unfold Addr.add; split <;> simp_all
        rw [e]
        exact HI.out.1 j _ (by rw [hfin, List.getElem?_eq_getElem hj]))
      rw [hlen] at hcb
      have HT := Lib.hid HI.out.2.2
      clear hlt hfin hlen
      go_wp2
      go_ret
      exact ⟨rfl, HT.out⟩

end Go.Proofs.YtlibbngcdeblmaaDoor
