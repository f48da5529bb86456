/- PART OF THE PROOF THAT THIS CLAIM HOLDS OF THE GIVEN PROGRAM, FOR EVERY INPUT THAT THE STATEMENT NAMES. No condition besides the statement's own. -/
import Derived.Test.YtdfgpminonpeaaaRows
import Derived.WalkKit
import Derived.Handy
import Derived.Laws.EntriesVeiled
import Derived.WalkSpells
import Derived.WalkLawsBesides
import Derived.BigQuiet
import Derived.Deep.QuietTactic
import Derived.Deep.Cut
import Derived.Lib.Overlaps
import Derived.Laws.Externs
import Derived.Lib.Hide
import Derived.Test.YtdfgpminonpeaaaUxPlanAllZ
import Derived.Test.YtdfgpminonpeaaaUxTreeAllZ
import Derived.Deep.LoopGhost
namespace Go.Proofs.Ytdfgpminonpeaaa
open Go.RowKit
-- slices.Clone: S
theorem cinfoS : (Try.prog.info? 9).map (fun i => (i.zero, i.size, i.bytes)) = some (some (.string ⟨#[]⟩), 1, 16) := by kernel_rfl

/-- what slices.Clone gives -/
def CloPostS (w : World) (m : Nat) (news : List Value) (e : Ending) (w' : World) : Prop :=
  ∃ v', e = .returned v' ∧ w'.ownsRow 0 9 1 v' m news ∧ Ux.Touch (fun _ => False) w w' ∧ ∀ b, v'.ownBlock = some b → w.heap.size ≤ b

set_option maxHeartbeats 1000000 in
set_option maxRecDepth 100000 in
theorem cloneS (a : Addr) (m c : Nat) (news : List Value) (w : World) (hl : news.length = m) (hcells : ∀ j u, news[j]? = some u → w.cell? (a.add j) = some u) (h1 : ∀ u ∈ news, u.oneCell' = true) (hm : m ≤ 2147483648) :
    Calls Try.prog 50 #[.slice (some a) m c] w (CloPostS w m news) := by
  obtain ⟨i0, hi0, hz0, hz1, hz2⟩ := info_parts cinfoS
  have hbnd : (0 + m) * 16 ≤ 140737488355328 := by omega
  have hown : (w.alloc (.cells #[] 9)).ownsRow 0 9 1 (.slice (some ⟨w.heap.size, 0, none⟩) 0 0) 0 [] :=
    World.ownsRow_made w #[] 0 (Nat.zero_le _) (by simp [maxLen]) rfl
  have hsrc : Src Try.prog 1 22 (.slice (some a) m c) m news (w.alloc (.cells #[] 9)) := Src.ofSlice _ Try.underlying22 a m c news (by simpa using hl) (fun j u hj =>
    Lib.cell?_alloc_some _ (hcells j u hj)) h1
  obtain ⟨v', w1, hap, ho1, ht1, hb1, _⟩ := Ux.run_app (P := Try.prog) _ 22 22 9 i0 (.string ⟨#[]⟩) 1 16 Try.underlying22 hi0 hz0 hz1 hz2 rfl (by omega) _ 0 [] hown (.slice (some a) m c) m news hsrc (by simp only [maxLen]; omega) hbnd
  rw [Nat.zero_add, List.nil_append] at ho1
  have ht : Ux.Touch (fun _ => False) w w1 := ((Ux.Touch.refl (fun _ => False) w).alloc (.cells #[] 9)).trans ht1 (fun k hk h => by
    have : w.heap.size = k := by simpa [Value.ownBlock] using h
    omega)
  have hb : ∀ b, v'.ownBlock = some b → w.heap.size ≤ b := fun b hb => by
    rcases hb1 with h | ⟨g, h, hg⟩
    · rw [hb] at h; simp [Value.ownBlock] at h; omega
    · rw [hb] at h; cases h; simp at hg; omega
  have HO := Lib.hid ho1
  have HA := Lib.hid hap
  have HT := Lib.hid ht
  have HB := Lib.hid hb
  clear hown hsrc hap ho1 ht1 hb1 ht hb hcells h1 hi0 hz0 hz1 hz2 hbnd
  go_enter Try.func50, Try.ntmps50
  go_wp2_with (at_builtin; refine Lib.wpList_append_run _ rfl _ _ _ _ rfl _ _ rfl rfl _ _ HA.out ?_)
  go_ret
  exact ⟨_, rfl, HO.out, HT.out, HB.out⟩

-- slices.Clone: I
theorem cinfoI : (Try.prog.info? 3).map (fun i => (i.zero, i.size, i.bytes)) = some (some (.int .i64 0), 1, 8) := by kernel_rfl

/-- what slices.Clone gives -/
def CloPostI (w : World) (m : Nat) (news : List Value) (e : Ending) (w' : World) : Prop :=
  ∃ v', e = .returned v' ∧ w'.ownsRow 0 3 1 v' m news ∧ Ux.Touch (fun _ => False) w w' ∧ ∀ b, v'.ownBlock = some b → w.heap.size ≤ b

set_option maxHeartbeats 1000000 in
set_option maxRecDepth 100000 in
theorem cloneI (a : Addr) (m c : Nat) (news : List Value) (w : World) (hl : news.length = m) (hcells : ∀ j u, news[j]? = some u → w.cell? (a.add j) = some u) (h1 : ∀ u ∈ news, u.oneCell' = true) (hm : m ≤ 2147483648) :
    Calls Try.prog 51 #[.slice (some a) m c] w (CloPostI w m news) := by
  obtain ⟨i0, hi0, hz0, hz1, hz2⟩ := info_parts cinfoI
  have hbnd : (0 + m) * 8 ≤ 140737488355328 := by omega
  have hown : (w.alloc (.cells #[] 3)).ownsRow 0 3 1 (.slice (some ⟨w.heap.size, 0, none⟩) 0 0) 0 [] :=
    World.ownsRow_made w #[] 0 (Nat.zero_le _) (by simp [maxLen]) rfl
  have hsrc : Src Try.prog 1 40 (.slice (some a) m c) m news (w.alloc (.cells #[] 3)) := Src.ofSlice _ Try.underlying40 a m c news (by simpa using hl) (fun j u hj =>
    Lib.cell?_alloc_some _ (hcells j u hj)) h1
  obtain ⟨v', w1, hap, ho1, ht1, hb1, _⟩ := Ux.run_app (P := Try.prog) _ 40 40 3 i0 (.int .i64 0) 1 8 Try.underlying40 hi0 hz0 hz1 hz2 rfl (by omega) _ 0 [] hown (.slice (some a) m c) m news hsrc (by simp only [maxLen]; omega) hbnd
  rw [Nat.zero_add, List.nil_append] at ho1
  have ht : Ux.Touch (fun _ => False) w w1 := ((Ux.Touch.refl (fun _ => False) w).alloc (.cells #[] 3)).trans ht1 (fun k hk h => by
    have : w.heap.size = k := by simpa [Value.ownBlock] using h
    omega)
  have hb : ∀ b, v'.ownBlock = some b → w.heap.size ≤ b := fun b hb => by
    rcases hb1 with h | ⟨g, h, hg⟩
    · rw [hb] at h; simp [Value.ownBlock] at h; omega
    · rw [hb] at h; cases h; simp at hg; omega
  have HO := Lib.hid ho1
  have HA := Lib.hid hap
  have HT := Lib.hid ht
  have HB := Lib.hid hb
  clear hown hsrc hap ho1 ht1 hb1 ht hb hcells h1 hi0 hz0 hz1 hz2 hbnd
  go_enter Try.func51, Try.ntmps51
  go_wp2_with (at_builtin; refine Lib.wpList_append_run _ rfl _ _ _ _ rfl _ _ rfl rfl _ _ HA.out ?_)
  go_ret
  exact ⟨_, rfl, HO.out, HT.out, HB.out⟩

-- slices.Clone: P
theorem cinfoP : (Try.prog.info? 59).map (fun i => (i.zero, i.size, i.bytes)) = some (some (.pointer none), 1, 8) := by kernel_rfl

/-- what slices.Clone gives -/
def CloPostP (w : World) (m : Nat) (news : List Value) (e : Ending) (w' : World) : Prop :=
  ∃ v', e = .returned v' ∧ w'.ownsRow 0 59 1 v' m news ∧ Ux.Touch (fun _ => False) w w' ∧ ∀ b, v'.ownBlock = some b → w.heap.size ≤ b

set_option maxHeartbeats 1000000 in
set_option maxRecDepth 100000 in
theorem cloneP (a : Addr) (m c : Nat) (news : List Value) (w : World) (hl : news.length = m) (hcells : ∀ j u, news[j]? = some u → w.cell? (a.add j) = some u) (h1 : ∀ u ∈ news, u.oneCell' = true) (hm : m ≤ 2147483648) :
    Calls Try.prog 52 #[.slice (some a) m c] w (CloPostP w m news) := by
  obtain ⟨i0, hi0, hz0, hz1, hz2⟩ := info_parts cinfoP
  have hbnd : (0 + m) * 8 ≤ 140737488355328 := by omega
  have hown : (w.alloc (.cells #[] 59)).ownsRow 0 59 1 (.slice (some ⟨w.heap.size, 0, none⟩) 0 0) 0 [] :=
    World.ownsRow_made w #[] 0 (Nat.zero_le _) (by simp [maxLen]) rfl
  have hsrc : Src Try.prog 1 60 (.slice (some a) m c) m news (w.alloc (.cells #[] 59)) := Src.ofSlice _ Try.underlying60 a m c news (by simpa using hl) (fun j u hj =>
    Lib.cell?_alloc_some _ (hcells j u hj)) h1
  obtain ⟨v', w1, hap, ho1, ht1, hb1, _⟩ := Ux.run_app (P := Try.prog) _ 60 60 59 i0 (.pointer none) 1 8 Try.underlying60 hi0 hz0 hz1 hz2 rfl (by omega) _ 0 [] hown (.slice (some a) m c) m news hsrc (by simp only [maxLen]; omega) hbnd
  rw [Nat.zero_add, List.nil_append] at ho1
  have ht : Ux.Touch (fun _ => False) w w1 := ((Ux.Touch.refl (fun _ => False) w).alloc (.cells #[] 59)).trans ht1 (fun k hk h => by
    have : w.heap.size = k := by simpa [Value.ownBlock] using h
    omega)
  have hb : ∀ b, v'.ownBlock = some b → w.heap.size ≤ b := fun b hb => by
    rcases hb1 with h | ⟨g, h, hg⟩
    · rw [hb] at h; simp [Value.ownBlock] at h; omega
    · rw [hb] at h; cases h; simp at hg; omega
  have HO := Lib.hid ho1
  have HA := Lib.hid hap
  have HT := Lib.hid ht
  have HB := Lib.hid hb
  clear hown hsrc hap ho1 ht1 hb1 ht hb hcells h1 hi0 hz0 hz1 hz2 hbnd
  go_enter Try.func52, Try.ntmps52
  go_wp2_with (at_builtin; refine Lib.wpList_append_run _ rfl _ _ _ _ rfl _ _ rfl rfl _ _ HA.out ?_)
  go_ret
  exact ⟨_, rfl, HO.out, HT.out, HB.out⟩

end Go.Proofs.Ytdfgpminonpeaaa
