/- PART OF THE PROOF THAT THIS CLAIM HOLDS OF THE GIVEN PROGRAM, FOR EVERY INPUT THAT THE STATEMENT NAMES. No condition besides the statement's own. -/
import Derived.Test.YtlibbngcdeblmaaDoorBuildZ
import Derived.Test.YtlibbngcdeblmaaDoorRows
import Derived.WalkKit
import Derived.Handy
import Derived.Laws.EntriesVeiled
import Derived.WalkSpells
import Derived.WalkLawsBesides
import Derived.BigQuiet
import Derived.Deep.QuietTactic
import Derived.Deep.Cut
import Derived.Deep.DeepCutAuto
import Derived.Lib.Overlaps
import Derived.Laws.Externs
import Derived.Lib.Hide
import Derived.Test.YtlibbngcdeblmaaDoorUxPlanAllZ
import Derived.Test.YtlibbngcdeblmaaDoorUxTreeAllZ
import Derived.Deep.LoopGhost
namespace Go.Proofs.YtlibbngcdeblmaaDoor
open Go.RowKit
-- imports: YtlibbngcdeblmaaDoorBuild
open Go.RowKit

set_option maxHeartbeats 4000000 in
set_option maxRecDepth 100000 in
theorem unescape10 (s : ByteArray) (w : World) (hs : s.size ≤ 4000000) : Calls Tryd.prog 10 #[.string s] w fun e w' => e = .returned (uneV (Ux.une s.data.toList [] 0)) ∧ Ux.Touch (fun _ => False) w w' := by
  obtain ⟨n, hn⟩ : ∃ n, s.size = n := ⟨_, rfl⟩
  obtain ⟨l, hl⟩ : ∃ l, s.data.toList = l := ⟨_, rfl⟩
  have hll : l.length = n := by rw [← hl, ← hn]; simp
  have hg : ∀ (i : Nat) (h : i < s.size), l[i]? = some s[i] := fun i h => by rw [← hl]; exact Lib.data_getElem? s i h
  rw [hl]
  obtain ⟨r, hr⟩ : ∃ r, uneV (Ux.une l [] 0) = r := ⟨_, rfl⟩
  rw [hr]
  have HH := Lib.hid (And.intro hll (And.intro hg hr))
  have j0 : (n : Int) ≤ 4000000 := by omega
  clear hll hg hl hr
  go_enter Tryd.func10, Tryd.ntmps10
  go_wp2
  go_loopg [6] n (fun g s6 wr => ∃ (i : Nat) (acc : List UInt8), s6 = .int .i64 i ∧ i + g = n ∧ Hid (uneV (Ux.une (l.drop i) acc i) = r ∧ acc.length ≤ i ∧ Lib.IsBuilder 54 5 w.heap.size w.heap.size (Lib.byteCells acc) wr ∧ Below w.heap.size w wr))
  case atStart =>
    refine ⟨0, [], rfl, by omega, Lib.hid ⟨HH.out.2.2, Nat.le_refl _, .inl ⟨Nat.le_refl _, .slice none 0 0, heap_alloc_last w _, World.ownsRow_nil _ _ 5 1, by simp [Value.ownBlock]⟩, (Below.refl _ w).alloc (Nat.le_refl _) _⟩⟩
  case round =>
    obtain ⟨i, acc, rfl, hig, HI⟩ := hrel
    have p0 : (0 : Int) ≤ i := by omega
    have CW : Hid (∀ (x : UInt8) (z : Int), (x.toNat : Int) = z → Calls Tryd.prog 19 #[.pointer (some ⟨w.heap.size, 0, none⟩), .int .u8 z] wr fun e w' => e = .returned .nilIface ∧ Lib.IsBuilder 54 5 w.heap.size w.heap.size (Lib.byteCells (acc ++ [x])) w' ∧ Below w.heap.size w w') := Lib.hid fun x z hz => by
      subst hz
      refine (write19 w.heap.size w.heap.size (Lib.byteCells acc) (x.toNat : Int) wr HI.out.2.2.1 (by have := HI.out.2.1; rw [Lib.byteCells_length]; omega) HI.out.2.2.2.size).mono ?_
      rintro e w' ⟨rfl, h1, h2⟩
      refine ⟨rfl, .inr ?_, HI.out.2.2.2.trans h2⟩
      have e2 : Lib.byteCells (acc ++ [x]) = Lib.byteCells acc ++ [.int .u8 (x.toNat : Int)] := by simp [Lib.byteCells]
      rw [e2]
      exact h1
    by_cases hlt : i < n
    · obtain ⟨g', rfl⟩ : ∃ g', gk = g' + 1 := ⟨gk - 1, by omega⟩
      have j1 : (i : Int) < n := by omega
      have his : i < s.size := by omega
      obtain ⟨x, hx⟩ : ∃ x : UInt8, s[i]'his = x := ⟨_, rfl⟩
      have hgx := HH.out.2.1 i his
      rw [hx] at hgx
      have hd : l.drop i = x :: l.drop (i + 1) := by
        rw [List.drop_eq_getElem_cons (List.getElem?_eq_some_iff.1 hgx).1, (List.getElem?_eq_some_iff.1 hgx).2]
      have hu := HI.out.1
      rw [hd] at hu
      clear hgx hd
      by_cases hx0 : x = 0
      · subst hx0
        by_cases hlt2 : i + 1 < n
        · have j2 : (i : Int) + 1 < n := by omega
          have j3 : ((i : Int) + 1 == n) = false := beq_eq_false_iff_ne.2 (by omega)
          have his2 : i + 1 < s.size := by omega
          obtain ⟨y, hy⟩ : ∃ y : UInt8, s[i + 1]'his2 = y := ⟨_, rfl⟩
          have hgy := HH.out.2.1 (i + 1) his2
          rw [hy] at hgy
          have hd2 : l.drop (i + 1) = y :: l.drop (i + 1 + 1) := by
            rw [List.drop_eq_getElem_cons (List.getElem?_eq_some_iff.1 hgy).1, (List.getElem?_eq_some_iff.1 hgy).2]
          rw [hd2] at hu
          clear hgy hd2
          by_cases hy1 : y = 1
          · subst hy1
            rw [une_done] at hu
            subst hu
            have CS := Lib.hid (Tryd.Builder_String_any w.heap.size w.heap.size acc wr HI.out.2.2.1 HI.out.2.2.2.size)
            clear hlt hlt2
            go_wp2_with (go_at_call 20; refine CS.out.mono ?_; rintro e w2 ⟨rfl, hb⟩)
            go_returns
            exact ⟨rfl, Ux.Touch.of_below (HI.out.2.2.2.trans hb)⟩
          · have hyi1 : ¬ (y.toNat : Int) = 1 := fun e => hy1 (UInt8.toNat_inj.1 (by simpa using (by omega : y.toNat = 1)))
            by_cases hy2 : y = 255
            · subst hy2
              rw [une_zero] at hu
              have HU := Lib.hid hu
              clear hu hyi1 hy1
              go_wp2_with (go_at_call 19; refine (CW.out 0 0 rfl).mono ?_; rintro e w2 ⟨rfl, h1, h2⟩; have HR := Lib.hid (And.intro h1 h2); clear h1 h2)
              obtain ⟨g'', rfl⟩ : ∃ g, g' = g + 1 := ⟨g' - 1, by omega⟩
              go_roundg g''
              case measure => omega
              case rel => exact ⟨i + 2, acc ++ [0], by congr 1, by omega, Lib.hid ⟨HU.out, by have := HI.out.2.1; rw [List.length_append]; simp; omega, HR.out⟩⟩
            · have hyi2 : ¬ (y.toNat : Int) = 255 := fun e => hy2 (UInt8.toNat_inj.1 (by simpa using (by omega : y.toNat = 255)))
              rw [une_bad hy1 hy2] at hu
              subst hu
              go_wp2
              go_returns
              exact ⟨rfl, Ux.Touch.of_below HI.out.2.2.2⟩
        · have j2 : ¬ (i : Int) + 1 < n := by omega
          have j3 : (i : Int) + 1 = n := by omega
          have hd2 : l.drop (i + 1) = [] := List.drop_eq_nil_of_le (by have := HH.out.1; omega)
          rw [hd2, une_end] at hu
          subst hu
          clear hlt2 hd2
          go_wp2
          go_returns
          exact ⟨rfl, Ux.Touch.of_below HI.out.2.2.2⟩
      · have hxi : ¬ (x.toNat : Int) = 0 := fun e => hx0 (UInt8.toNat_inj.1 (by simpa using (by omega : x.toNat = 0)))
        rw [une_plain hx0] at hu
        have HU := Lib.hid hu
        clear hu
        go_wp2_with (go_at_call 19; refine (CW.out x _ rfl).mono ?_; rintro e w2 ⟨rfl, h1, h2⟩; have HR := Lib.hid (And.intro h1 h2); clear h1 h2)
        go_roundg g'
        case measure => omega
        case rel => exact ⟨i + 1, acc ++ [x], rfl, by omega, Lib.hid ⟨HU.out, by have := HI.out.2.1; rw [List.length_append]; simp; omega, HR.out⟩⟩
    · have q1 : ¬ (i : Int) < n := by omega
      have hu := HI.out.1
      rw [List.drop_eq_nil_of_le (by have := HH.out.1; omega), une_nil] at hu
      subst hu
      clear hlt
      go_wp2
      go_returns
      exact ⟨rfl, Ux.Touch.of_below HI.out.2.2.2⟩

end Go.Proofs.YtlibbngcdeblmaaDoor
