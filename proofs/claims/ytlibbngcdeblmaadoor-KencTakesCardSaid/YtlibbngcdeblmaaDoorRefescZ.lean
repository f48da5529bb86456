/- PART OF THE PROOF THAT THIS CLAIM HOLDS OF THE GIVEN PROGRAM, FOR EVERY INPUT THAT THE STATEMENT NAMES. No condition besides the statement's own. -/
import Derived.Test.YtlibbngcdeblmaaDoorBytesZ
import Derived.Test.YtlibbngcdeblmaaDoorRows
import Derived.WalkKit
import Derived.Handy
import Derived.Laws.EntriesVeiled
import Derived.WalkSpells
import Derived.WalkLawsBesides
import Derived.BigQuiet
import Derived.Deep.QuietTactic
import Derived.Deep.Cut
import Derived.Deep.DeepCutAuto
import Derived.Lib.Overlaps
import Derived.Laws.Externs
import Derived.Lib.Hide
import Derived.Test.YtlibbngcdeblmaaDoorUxPlanAllZ
import Derived.Test.YtlibbngcdeblmaaDoorUxTreeAllZ
import Derived.Deep.LoopGhost
namespace Go.Proofs.YtlibbngcdeblmaaDoor
open Go.RowKit
-- imports: YtlibbngcdeblmaaDoorBytes
open Go.RowKit

theorem app52end (v : Value) (xs : List UInt8) (w : World) (h : w.ownsRow 0 5 1 v xs.length (bv xs)) (hn : xs.length ≤ 100000000) :
    ∃ r w', (∀ ty, (Builtin.append_ #[52, 52] ty #[v, .slice (some ⟨w.heap.size, 0, none⟩) 2 2]).run Tryd.prog (w.alloc (.cells #[.int .u8 0, .int .u8 1] 5)) = .ok r w') ∧ w'.ownsRow 0 5 1 r (xs ++ [0, 1]).length (bv (xs ++ [0, 1])) ∧ Ux.Touch (fun b => v.ownBlock = some b) w w' :=
  let ⟨r, w', h1, h2, h3, _⟩ := app52 v xs w h hn [0, 1] (by simp)
  ⟨r, w', h1, h2, h3⟩
theorem app52c (v : Value) (xs : List UInt8) (w : World) (h : w.ownsRow 0 5 1 v xs.length (bv xs)) (hn : xs.length ≤ 100000000) (y : UInt8) (z : Int) (hz : (y.toNat : Int) = z) :
    ∃ r w', (∀ ty, (Builtin.append_ #[52, 52] ty #[v, .slice (some ⟨w.heap.size, 0, none⟩) 1 1]).run Tryd.prog (w.alloc (.cells #[.int .u8 z] 5)) = .ok r w') ∧ w'.ownsRow 0 5 1 r (xs ++ [y]).length (bv (xs ++ [y])) ∧ Ux.Touch (fun b => v.ownBlock = some b) w w' ∧ (r.ownBlock = v.ownBlock ∨ ∃ g, r.ownBlock = some g ∧ w.heap.size ≤ g) := by
  subst hz
  exact app52one v xs w h hn y

set_option maxHeartbeats 4000000 in
set_option maxRecDepth 100000 in
theorem refEscape12 (s : ByteArray) (w : World) (hs : s.size ≤ 4000000) : Calls Tryd.prog 12 #[.string s] w fun e w' => e = .returned (.string ⟨(Ux.esc s.data.toList).toArray⟩) ∧ Ux.Touch (fun _ => False) w w' := by
  obtain ⟨n, hn⟩ : ∃ n, s.size = n := ⟨_, rfl⟩
  obtain ⟨l, hl⟩ : ∃ l, s.data.toList = l := ⟨_, rfl⟩
  have hll : l.length = n := by rw [← hl, ← hn]; simp
  have hg : ∀ (i : Nat) (h : i < s.size), l[i]? = some s[i] := fun i h => by rw [← hl]; exact Lib.data_getElem? s i h
  rw [hl]
  have HH := Lib.hid (And.intro hll (And.intro hg hl))
  have j0 : (n : Int) ≤ 4000000 := by omega
  clear hll hg hl
  go_enter Tryd.func12, Tryd.ntmps12
  go_wp2
  go_loopg [4, 3] n (fun g s4 s3 wr => ∃ i : Nat, s4 = .int .i64 i ∧ i + g = n ∧ Hid (wr.ownsRow 0 5 1 s3 (Ux.escB (l.take i)).length (bv (Ux.escB (l.take i))) ∧ (∀ b, s3.ownBlock = some b → w.heap.size ≤ b) ∧ Ux.Touch (fun _ => False) w wr))
  case atStart => exact ⟨0, rfl, by omega, Lib.hid ⟨World.ownsRow_nil _ 0 5 1, fun b hb => (by cases hb), Ux.Touch.refl _ _⟩⟩
  case round =>
    obtain ⟨i, rfl, hig, HI⟩ := hrel
    have p0 : (0 : Int) ≤ i := by omega
    have hle := (Ux.escB_length (l.take i)).2
    rw [List.length_take] at hle
    obtain ⟨a3, c3, hs3⟩ := bytes_slice HI.out.1
    obtain ⟨k3, hk3⟩ : ∃ k, (Ux.escB (l.take i)).length = k := ⟨_, rfl⟩
    rw [hk3] at hs3 hle
    subst hs3
    have HK := Lib.hid hk3
    clear hk3
    by_cases hlt : i < n
    · obtain ⟨g', rfl⟩ : ∃ g', gk = g' + 1 := ⟨gk - 1, by omega⟩
      have j1 : (i : Int) < n := by omega
      have his : i < s.size := by omega
      obtain ⟨x, hx⟩ : ∃ x : UInt8, s[i]'his = x := ⟨_, rfl⟩
      have hgx := HH.out.2.1 i his
      rw [hx] at hgx
      have hst : Ux.escB (l.take (i + 1)) = Ux.escB (l.take i) ++ Ux.esc1 x := by rw [List.take_add_one, hgx]; exact Ux.escB_snoc _ _
      obtain ⟨r2, w2, run2, row2, t2, own2⟩ := app52one (.slice a3 k3 c3) (Ux.escB (l.take i)) wr HI.out.1 (by have := HK.out; omega) x
      obtain ⟨a4, c4, hs4⟩ := bytes_slice row2
      obtain ⟨k4, hk4⟩ : ∃ k, (Ux.escB (l.take i) ++ [x]).length = k := ⟨_, rfl⟩
      rw [hk4] at hs4
      subst hs4
      have HK4 := Lib.hid hk4
      clear hk4
      have R2 := Lib.hid run2
      have own2' : ∀ b, (Value.slice a4 k4 c4).ownBlock = some b → w.heap.size ≤ b := fun b hb => by
        rcases own2 with h | ⟨g, h, h'⟩
        · exact HI.out.2.1 b (by rw [← h]; exact hb)
        · rw [h] at hb; cases hb; have := HI.out.2.2.size; omega
      have T2 := HI.out.2.2.trans t2 (fun b hb h => by have := HI.out.2.1 b h; omega)
      by_cases hx0 : x = 0
      · subst hx0
        obtain ⟨r5, w5, run5, row5, t5, own5⟩ := app52c _ _ w2 row2 (by have := HK.out; rw [List.length_append]; simp; omega) 255 255 rfl
        obtain ⟨a5, c5, hs5⟩ := bytes_slice row5
        obtain ⟨k5, hk5⟩ : ∃ k, (Ux.escB (l.take i) ++ [0] ++ [255]).length = k := ⟨_, rfl⟩
        rw [hk5] at hs5
        subst hs5
        clear hk5
        have R5 := Lib.hid run5
        have own5' : ∀ b, (Value.slice a5 k5 c5).ownBlock = some b → w.heap.size ≤ b := fun b hb => by
          rcases own5 with h | ⟨g, h, h'⟩
          · exact own2' b (by rw [← h]; exact hb)
          · rw [h] at hb; cases hb; have := T2.size; omega
        have HR := Lib.hid (And.intro hst (And.intro row5 (And.intro own5' (T2.trans t5 (fun b hb h => by have := own2' b h; omega)))))
        clear hst run2 row2 t2 own2 own2' T2 run5 row5 t5 own5 own5' hgx
        go_wp2_with (first
          | (at_builtin; refine Ux.wpList_app (v1 := .slice a3 k3 c3) (x1 := .slice (some ⟨wr.heap.size, 0, none⟩) 1 1) rfl _ _ _ _ rfl rfl rfl (R2.out _) ?_)
          | (at_builtin; refine Ux.wpList_app (v1 := .slice a4 k4 c4) (x1 := .slice (some ⟨w2.heap.size, 0, none⟩) 1 1) rfl _ _ _ _ rfl rfl rfl (R5.out _) ?_))
        go_roundg g'
        case measure => omega
        case rel =>
          refine ⟨i + 1, rfl, by omega, Lib.hid ⟨?_, HR.out.2.2.1, HR.out.2.2.2⟩⟩
          have e : Ux.escB (l.take (i + 1)) = Ux.escB (l.take i) ++ [0] ++ [255] := by rw [HR.out.1, List.append_assoc]; rfl
          rw [e]
          exact HR.out.2.1
      · have hxi : ¬ (x.toNat : Int) = 0 := fun e => hx0 (UInt8.toNat_inj.1 (by simpa using (by omega : x.toNat = 0)))
        have HR := Lib.hid (And.intro hst (And.intro row2 (And.intro own2' T2)))
        clear hst run2 row2 t2 own2 own2' T2 hgx
        go_wp2_with (at_builtin; refine Ux.wpList_app (v1 := .slice a3 k3 c3) (x1 := .slice (some ⟨wr.heap.size, 0, none⟩) 1 1) rfl _ _ _ _ rfl rfl rfl (R2.out _) ?_)
        go_roundg g'
        case measure => omega
        case rel =>
          refine ⟨i + 1, rfl, by omega, Lib.hid ⟨?_, HR.out.2.2.1, HR.out.2.2.2⟩⟩
          have e : Ux.escB (l.take (i + 1)) = Ux.escB (l.take i) ++ [x] := by rw [HR.out.1]; unfold Ux.esc1; rw [if_neg hx0]
          rw [e]
          exact HR.out.2.1
    · have q1 : ¬ (i : Int) < n := by omega
      have hfull : l.take i = l := List.take_of_length_le (by have := HH.out.1; omega)
      rw [hfull] at HI HK
      obtain ⟨r2, w2, run2, row2, t2⟩ := app52end (.slice a3 k3 c3) (Ux.escB l) wr HI.out.1 (by have := HK.out; omega)
      have hcv := conv52 row2
      obtain ⟨a4, c4, hs4⟩ := bytes_slice row2
      obtain ⟨k4, hk4⟩ : ∃ k, (Ux.escB l ++ [0, 1]).length = k := ⟨_, rfl⟩
      rw [hk4] at hs4
      subst hs4
      clear hk4
      have R2 := Lib.hid run2
      have T2 := Lib.hid (HI.out.2.2.trans t2 (fun b hb h => by have := HI.out.2.1 b h; omega))
      have he : Ux.escB l ++ [0, 1] = Ux.esc l := rfl
      rw [he] at hcv
      clear run2 row2 t2 hfull hlt
      go_wp2_with (at_builtin; refine Ux.wpList_app (v1 := .slice a3 k3 c3) (x1 := .slice (some ⟨wr.heap.size, 0, none⟩) 2 2) rfl _ _ _ _ rfl rfl rfl (R2.out _) ?_)
      go_ret
      exact ⟨rfl, T2.out⟩

end Go.Proofs.YtlibbngcdeblmaaDoor
