/- PART OF THE PROOF THAT THIS CLAIM HOLDS OF THE GIVEN PROGRAM, FOR EVERY INPUT THAT THE STATEMENT NAMES. No condition besides the statement's own. -/
import Derived.Test.YtlibbngcdeblmaaDoorValZ
import Derived.Test.YtlibbngcdeblmaaDoorValueZ
import Derived.Test.YtlibbngcdeblmaaDoorUxRangeBZ
import Derived.Test.YtlibbngcdeblmaaDoorRows
import Derived.WalkKit
import Derived.Handy
import Derived.Laws.EntriesVeiled
import Derived.WalkSpells
import Derived.WalkLawsBesides
import Derived.BigQuiet
import Derived.Deep.QuietTactic
import Derived.Deep.Cut
import Derived.Deep.DeepCutAuto
import Derived.Lib.Overlaps
import Derived.Laws.Externs
import Derived.Lib.Hide
import Derived.Test.YtlibbngcdeblmaaDoorUxPlanAllZ
import Derived.Test.YtlibbngcdeblmaaDoorUxTreeAllZ
import Derived.Deep.LoopGhost
namespace Go.Proofs.YtlibbngcdeblmaaDoor
open Go.RowKit
-- imports: YtlibbngcdeblmaaDoorVal YtlibbngcdeblmaaDoorValue UxRangeB
open Go.RowKit

set_option maxHeartbeats 4000000 in
theorem ok39 (w : World) : Calls Tryd.prog 39 #[.agg coll0] w fun e w' => e = .returned (.bool false) ∧ Ux.Touch (fun _ => False) w w' := by
  unfold coll0
  go_enter Tryd.func39, Tryd.ntmps39
  go_wp2
  go_returns
  exact ⟨rfl, (Ux.Touch.refl _ w).alloc _⟩

/-- a byte as it is told -/
def encB (x : UInt8) : Array Value := #[.int .u8 (x.toNat : Int)]

set_option maxHeartbeats 4000000 in
set_option maxRecDepth 100000 in
theorem iter38 (l : Nat) (s : ByteArray) (hs : s.size ≤ 100000) (C IT : Nat → Prop) (J Jx : List UInt8 → World → Prop) (W : World) (b1 b2 : Nat)
    (hR : Ux.RoundsB Tryd.prog encB l s.data.toList C IT J Jx) (hb1 : ¬ C b1) (hb2 : ¬ C b2)
    (hc1 : W.heap[b1]? = some (.cells coll0 41 (0, 0))) (hc2 : W.heap[b2]? = some (.cells #[.string s] 9 (0, 0))) (h0 : J [] W) :
    Calls Tryd.prog 38 #[.func (.yield l) #[] #[], .pointer (some ⟨b1, 0, none⟩), .pointer (some ⟨b2, 0, none⟩)] W (Ux.RngDone s.data.toList J Jx) := by
  obtain ⟨want, hw⟩ : ∃ want, s.data.toList = want := ⟨_, rfl⟩
  obtain ⟨n, hn⟩ : ∃ n, s.size = n := ⟨_, rfl⟩
  have hwl : want.length = n := by rw [← hw, ← hn]; simp
  have hg : ∀ (i : Nat) (h : i < s.size), want[i]? = some s[i] := fun i h => by rw [← hw]; exact Lib.data_getElem? s i h
  rw [hw] at hR
  rw [hw]
  have c0 : W.cell? ⟨b1, 0, none⟩ = some (.int .i64 0) := by rw [cell_of_row W b1 0 _ 41 (0, 0) hc1]; rfl
  have d0 : W.cell? ⟨b1, 1, none⟩ = some (.int .i64 0) := by rw [cell_of_row W b1 1 _ 41 (0, 0) hc1]; rfl
  have d1 : W.cell? ⟨b1, 2, none⟩ = some (.bool false) := by rw [cell_of_row W b1 2 _ 41 (0, 0) hc1]; rfl
  have d2 : W.cell? ⟨b1, 3, none⟩ = some (.bool false) := by rw [cell_of_row W b1 3 _ 41 (0, 0) hc1]; rfl
  have d3 : W.cell? ⟨b1, 4, none⟩ = some (.pointer none) := by rw [cell_of_row W b1 4 _ 41 (0, 0) hc1]; rfl
  have e0 : W.cell? ⟨b2, 0, none⟩ = some (.string s) := by rw [cell_of_row W b2 0 _ 9 (0, 0) hc2]; rfl
  have j0 : (n : Int) ≤ 100000 := by omega
  have c39 := Lib.hid ok39
  unfold coll0 at c39
  have HR := Lib.hid (And.intro hR (And.intro hb1 (And.intro hb2 (And.intro hc1 (And.intro hc2 h0)))))
  have HH := Lib.hid (And.intro hwl (And.intro hg hw))
  clear hwl hg hw hR hb1 hb2 hc1 hc2 h0 hs
  go_enter Tryd.func38, Tryd.ntmps38
  go_wp2_with (go_at_call 39; fail)
  refine (c39.out _).mono ?_
  rintro e w2 ⟨rfl, T2⟩
  have c2 := T2.cell c0 (fun f => f)
  have e2 := T2.cell d0 (fun f => f)
  have e3 := T2.cell d1 (fun f => f)
  have e4 := T2.cell d2 (fun f => f)
  have e5 := T2.cell d3 (fun f => f)
  have e6 := T2.cell e0 (fun f => f)
  have HT2 := Lib.hid T2
  clear T2 c0 d0 d1 d2 d3 e0
  go_wp2_with (go_at_call 39; fail)
  refine (c39.out _).mono ?_
  rintro e w3 ⟨rfl, T3⟩
  have c0 := T3.cell c2 (fun f => f)
  have d0 := T3.cell e6 (fun f => f)
  have T23 := HT2.out.trans T3 (fun _ _ f => f)
  have hJ := HR.out.1.stays _ _ _ HR.out.2.2.2.2.2 (T23.mono (fun _ _ f => f.elim))
  have H3 := Lib.hid (And.intro (T23.heap HR.out.2.2.2.1 (fun f => f)) (And.intro (T23.heap HR.out.2.2.2.2.1 (fun f => f)) hJ))
  clear T3 T23 hJ c2 e2 e3 e4 e5 e6 HT2
  go_wp2_with (fail)
  clear c0 d0
  go_loopg [29] n (fun g' s29 wr => ∃ i : Nat, s29 = .int .i64 i ∧ i + g' = n ∧ Hid (wr.heap[b2]? = some (.cells #[.string s] 9 (0, 0)) ∧ J (want.take i) wr))
  case atStart => exact ⟨0, rfl, by omega, Lib.hid H3.out.2⟩
  case round =>
    obtain ⟨i, rfl, hig, HI⟩ := hrel
    have p0 : (0 : Int) ≤ i := by omega
    have d0 : wr.cell? ⟨b2, 0, none⟩ = some (.string s) := by rw [cell_of_row wr b2 0 _ 9 (0, 0) HI.out.1]; rfl
    by_cases hlt : i < n
    · obtain ⟨g', rfl⟩ : ∃ g', gk = g' + 1 := ⟨gk - 1, by omega⟩
      have j1 : (i : Int) < n := by omega
      have his : i < s.size := by omega
      have hgx := HH.out.2.1 i his
      obtain ⟨x, hx⟩ : ∃ x : UInt8, s[i]'his = x := ⟨_, rfl⟩
      rw [hx] at hgx
      obtain ⟨fn, tmps, assign, bd, hy, hRI⟩ := HR.out.1.round i x wr hgx HI.out.2
      unfold encB at hy
      have HRI := Lib.hid hRI
      clear hRI hgx
      go_upto_region 6 with (fail)
      refine (wpIn_wide (n := 6)).1 ?_
      gi_wp2_with (fail)
      refine HRI.out.mono ?_
      rintro e w6 hres
      rcases hres with ⟨rfl, J6, T6⟩ | ⟨rfl, JX6⟩
      · have h6 := T6.heap HI.out.1 HR.out.2.2.1
        have H6 := Lib.hid (And.intro h6 J6)
        clear h6 J6 T6 hy d0
        gi_wp2_with (fail)
        go_wp2_with (fail)
        go_roundg g'
        case measure => omega
        case rel => exact ⟨i + 1, rfl, by omega, H6⟩
      · have HX := Lib.hid JX6
        have hil : i < want.length := by have := HH.out.1; omega
        clear hy d0 JX6
        gi_wp2_with (fail)
        go_wp2_with (fail)
        go_returns
        exact ⟨⟨_, rfl⟩, .inr ⟨i, hil, HX.out⟩⟩
    · obtain rfl : i = n := by omega
      have q1 : ¬ (i : Int) < i := by omega
      clear hlt
      go_wp2_with (fail)
      go_returns
      refine ⟨⟨_, rfl⟩, .inl ?_⟩
      have := HI.out.2
      rwa [List.take_of_length_le (by have := HH.out.1; omega)] at this

end Go.Proofs.YtlibbngcdeblmaaDoor
