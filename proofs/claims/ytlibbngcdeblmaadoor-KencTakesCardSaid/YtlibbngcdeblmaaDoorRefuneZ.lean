/- PART OF THE PROOF THAT THIS CLAIM HOLDS OF THE GIVEN PROGRAM, FOR EVERY INPUT THAT THE STATEMENT NAMES. No condition besides the statement's own. -/
import Derived.Test.YtlibbngcdeblmaaDoorRefescZ
import Derived.Test.YtlibbngcdeblmaaDoorRows
import Derived.WalkKit
import Derived.Handy
import Derived.Laws.EntriesVeiled
import Derived.WalkSpells
import Derived.WalkLawsBesides
import Derived.BigQuiet
import Derived.Deep.QuietTactic
import Derived.Deep.Cut
import Derived.Deep.DeepCutAuto
import Derived.Lib.Overlaps
import Derived.Laws.Externs
import Derived.Lib.Hide
import Derived.Test.YtlibbngcdeblmaaDoorUxPlanAllZ
import Derived.Test.YtlibbngcdeblmaaDoorUxTreeAllZ
import Derived.Deep.LoopGhost
namespace Go.Proofs.YtlibbngcdeblmaaDoor
open Go.RowKit
-- imports: YtlibbngcdeblmaaDoorRefesc
open Go.RowKit

theorem une_plain {b : UInt8} (hb : b ≠ 0) (r acc : List UInt8) (u : Nat) : Ux.une (b :: r) acc u = Ux.une r (acc ++ [b]) (u + 1) := by
  rw [Ux.une.eq_def]
  simp only [if_neg hb]
theorem une_end (acc : List UInt8) (u : Nat) : Ux.une [0] acc u = ([], 0, 4) := by rw [Ux.une]; simp
theorem une_nil (acc : List UInt8) (u : Nat) : Ux.une [] acc u = ([], 0, 4) := by rw [Ux.une]
theorem une_done (r acc : List UInt8) (u : Nat) : Ux.une (0 :: 1 :: r) acc u = (acc, u + 2, 0) := by rw [Ux.une]; simp
theorem une_zero (r acc : List UInt8) (u : Nat) : Ux.une (0 :: 255 :: r) acc u = Ux.une r (acc ++ [0]) (u + 2) := by
  rw [Ux.une.eq_def]
  simp only [if_true]
  rw [if_neg (by decide)]
theorem une_bad {c : UInt8} (h1 : c ≠ 1) (h2 : c ≠ 255) (r acc : List UInt8) (u : Nat) : Ux.une (0 :: c :: r) acc u = ([], 0, 3) := by
  rw [Ux.une.eq_def]
  simp only [if_true]
  rw [if_neg h1, if_neg h2]

/-- what reading a text out of bytes answers -/
def uneV (x : List UInt8 × Nat × Int) : Value := .tuple #[.string ⟨x.1.toArray⟩, .int .i64 x.2.1, .int .i64 x.2.2]

set_option maxHeartbeats 4000000 in
set_option maxRecDepth 100000 in
theorem refUnescape11 (s : ByteArray) (w : World) (hs : s.size ≤ 4000000) : Calls Tryd.prog 11 #[.string s] w fun e w' => e = .returned (uneV (Ux.une s.data.toList [] 0)) ∧ Ux.Touch (fun _ => False) w w' := by
  obtain ⟨n, hn⟩ : ∃ n, s.size = n := ⟨_, rfl⟩
  obtain ⟨l, hl⟩ : ∃ l, s.data.toList = l := ⟨_, rfl⟩
  have hll : l.length = n := by rw [← hl, ← hn]; simp
  have hg : ∀ (i : Nat) (h : i < s.size), l[i]? = some s[i] := fun i h => by rw [← hl]; exact Lib.data_getElem? s i h
  rw [hl]
  obtain ⟨r, hr⟩ : ∃ r, uneV (Ux.une l [] 0) = r := ⟨_, rfl⟩
  rw [hr]
  have HH := Lib.hid (And.intro hll (And.intro hg hr))
  have j0 : (n : Int) ≤ 4000000 := by omega
  clear hll hg hl hr
  go_enter Tryd.func11, Tryd.ntmps11
  go_wp2
  go_loopg [6, 5] n (fun g s6 s5 wr => ∃ (i : Nat) (acc : List UInt8), s6 = .int .i64 i ∧ i + g = n ∧ Hid (uneV (Ux.une (l.drop i) acc i) = r ∧ acc.length ≤ i ∧ wr.ownsRow 0 5 1 s5 acc.length (bv acc) ∧ (∀ b, s5.ownBlock = some b → w.heap.size ≤ b) ∧ Ux.Touch (fun _ => False) w wr))
  case atStart => exact ⟨0, [], rfl, by omega, Lib.hid ⟨HH.out.2.2, Nat.le_refl _, World.ownsRow_nil _ 0 5 1, fun b hb => (by cases hb), Ux.Touch.refl _ _⟩⟩
  case round =>
    obtain ⟨i, acc, rfl, hig, HI⟩ := hrel
    have p0 : (0 : Int) ≤ i := by omega
    obtain ⟨a3, c3, hs3⟩ := bytes_slice HI.out.2.2.1
    obtain ⟨k3, hk3⟩ : ∃ k, acc.length = k := ⟨_, rfl⟩
    rw [hk3] at hs3
    subst hs3
    have HK := Lib.hid hk3
    clear hk3
    by_cases hlt : i < n
    · obtain ⟨g', rfl⟩ : ∃ g', gk = g' + 1 := ⟨gk - 1, by omega⟩
      have j1 : (i : Int) < n := by omega
      have his : i < s.size := by omega
      obtain ⟨x, hx⟩ : ∃ x : UInt8, s[i]'his = x := ⟨_, rfl⟩
      have hgx := HH.out.2.1 i his
      rw [hx] at hgx
      have hd : l.drop i = x :: l.drop (i + 1) := by
        rw [List.drop_eq_getElem_cons (List.getElem?_eq_some_iff.1 hgx).1, (List.getElem?_eq_some_iff.1 hgx).2]
      have hu := HI.out.1
      rw [hd] at hu
      clear hgx hd
      by_cases hx0 : x = 0
      · subst hx0
        by_cases hlt2 : i + 1 < n
        · have j2 : (i : Int) + 1 < n := by omega
          have his2 : i + 1 < s.size := by omega
          obtain ⟨y, hy⟩ : ∃ y : UInt8, s[i + 1]'his2 = y := ⟨_, rfl⟩
          have hgy := HH.out.2.1 (i + 1) his2
          rw [hy] at hgy
          have hd2 : l.drop (i + 1) = y :: l.drop (i + 1 + 1) := by
            rw [List.drop_eq_getElem_cons (List.getElem?_eq_some_iff.1 hgy).1, (List.getElem?_eq_some_iff.1 hgy).2]
          rw [hd2] at hu
          clear hgy hd2
          by_cases hy1 : y = 1
          · subst hy1
            rw [une_done] at hu
            have hcv := conv52 HI.out.2.2.1
            subst hu
            clear hlt hlt2
            go_wp2
            go_returns
            exact ⟨rfl, HI.out.2.2.2.2⟩
          · have hyi1 : ¬ (y.toNat : Int) = 1 := fun e => hy1 (UInt8.toNat_inj.1 (by simpa using (by omega : y.toNat = 1)))
            by_cases hy2 : y = 255
            · subst hy2
              rw [une_zero] at hu
              obtain ⟨r2, w2, run2, row2, t2, own2⟩ := app52c (.slice a3 k3 c3) acc wr HI.out.2.2.1 (by have := HI.out.2.1; omega) 0 0 rfl
              have R2 := Lib.hid run2
              have own2' : ∀ b, r2.ownBlock = some b → w.heap.size ≤ b := fun b hb => by
                rcases own2 with h | ⟨g, h, h'⟩
                · exact HI.out.2.2.2.1 b (by rw [← h]; exact hb)
                · rw [h] at hb; cases hb; have := HI.out.2.2.2.2.size; omega
              have HR := Lib.hid (And.intro hu (And.intro row2 (And.intro own2' (HI.out.2.2.2.2.trans t2 (fun b hb h => by have := HI.out.2.2.2.1 b h; omega)))))
              clear hu run2 row2 t2 own2 own2' hyi1 hy1
              go_wp2_with (at_builtin; refine Ux.wpList_app (v1 := .slice a3 k3 c3) (x1 := .slice (some ⟨wr.heap.size, 0, none⟩) 1 1) rfl _ _ _ _ rfl rfl rfl (R2.out _) ?_)
              obtain ⟨g'', rfl⟩ : ∃ g, g' = g + 1 := ⟨g' - 1, by omega⟩
              go_roundg g''
              case measure => omega
              case rel => exact ⟨i + 2, acc ++ [0], by congr 1, by omega, Lib.hid ⟨HR.out.1, by have := HI.out.2.1; rw [List.length_append]; simp; omega, HR.out.2⟩⟩
            · have hyi2 : ¬ (y.toNat : Int) = 255 := fun e => hy2 (UInt8.toNat_inj.1 (by simpa using (by omega : y.toNat = 255)))
              rw [une_bad hy1 hy2] at hu
              subst hu
              go_wp2
              go_returns
              exact ⟨rfl, HI.out.2.2.2.2⟩
        · have j2 : ¬ (i : Int) + 1 < n := by omega
          have hd2 : l.drop (i + 1) = [] := List.drop_eq_nil_of_le (by have := HH.out.1; omega)
          rw [hd2, une_end] at hu
          subst hu
          clear hlt2 hd2
          go_wp2
          go_returns
          exact ⟨rfl, HI.out.2.2.2.2⟩
      · have hxi : ¬ (x.toNat : Int) = 0 := fun e => hx0 (UInt8.toNat_inj.1 (by simpa using (by omega : x.toNat = 0)))
        rw [une_plain hx0] at hu
        obtain ⟨r2, w2, run2, row2, t2, own2⟩ := app52one (.slice a3 k3 c3) acc wr HI.out.2.2.1 (by have := HI.out.2.1; omega) x
        have R2 := Lib.hid run2
        have own2' : ∀ b, r2.ownBlock = some b → w.heap.size ≤ b := fun b hb => by
          rcases own2 with h | ⟨g, h, h'⟩
          · exact HI.out.2.2.2.1 b (by rw [← h]; exact hb)
          · rw [h] at hb; cases hb; have := HI.out.2.2.2.2.size; omega
        have HR := Lib.hid (And.intro hu (And.intro row2 (And.intro own2' (HI.out.2.2.2.2.trans t2 (fun b hb h => by have := HI.out.2.2.2.1 b h; omega)))))
        clear hu run2 row2 t2 own2 own2'
        go_wp2_with (at_builtin; refine Ux.wpList_app (v1 := .slice a3 k3 c3) (x1 := .slice (some ⟨wr.heap.size, 0, none⟩) 1 1) rfl _ _ _ _ rfl rfl rfl (R2.out _) ?_)
        go_roundg g'
        case measure => omega
        case rel => exact ⟨i + 1, acc ++ [x], rfl, by omega, Lib.hid ⟨HR.out.1, by have := HI.out.2.1; rw [List.length_append]; simp; omega, HR.out.2⟩⟩
    · have q1 : ¬ (i : Int) < n := by omega
      have hu := HI.out.1
      rw [List.drop_eq_nil_of_le (by have := HH.out.1; omega), une_nil] at hu
      subst hu
      clear hlt
      go_wp2
      go_returns
      exact ⟨rfl, HI.out.2.2.2.2⟩

end Go.Proofs.YtlibbngcdeblmaaDoor
