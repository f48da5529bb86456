/- PART OF THE PROOF THAT THIS CLAIM HOLDS OF THE GIVEN PROGRAM, FOR EVERY INPUT THAT THE STATEMENT NAMES. No condition besides the statement's own. -/
import Derived.Test.YtdfgpminonpeaaaRows
import Derived.WalkKit
import Derived.Handy
import Derived.Laws.EntriesVeiled
import Derived.WalkSpells
import Derived.WalkLawsBesides
import Derived.BigQuiet
import Derived.Deep.QuietTactic
import Derived.Deep.Cut
import Derived.Lib.Overlaps
import Derived.Laws.Externs
import Derived.Lib.Hide
import Derived.Test.YtdfgpminonpeaaaUxPlanAllZ
import Derived.Test.YtdfgpminonpeaaaUxTreeAllZ
import Derived.Deep.LoopGhost
namespace Go.Proofs.Ytdfgpminonpeaaa
open Go.RowKit
-- slices.Delete of one element: S
theorem dinfoS : (Try.prog.info? 9).map (fun i => (i.zero, i.size, i.bytes)) = some (some (.string ⟨#[]⟩), 1, 16) := by kernel_rfl
theorem dzeroS (w : World) : (zeroValue 9).run Try.prog w = .ok (.string ⟨#[]⟩) w := by kernel_rfl

/-- what slices.Delete of one element gives -/
def DelPostS (w : World) (v : Value) (n i : Nat) (xs : List Value) (e : Ending) (w' : World) : Prop :=
  ∃ v', e = .returned v' ∧ w'.ownsRow 0 9 1 v' (n - 1) (xs.take i ++ xs.drop (i + 1)) ∧ Ux.Touch (fun k => v.ownBlock = some k) w w' ∧ v'.ownBlock = v.ownBlock ∧ v'.ownBlock ≠ none

set_option maxHeartbeats 1000000 in
set_option maxRecDepth 100000 in
theorem deleteS (v : Value) (n i : Nat) (xs : List Value) (w : World) (hown : w.ownsRow 0 9 1 v n xs) (hi : i < n) (h1 : ∀ x ∈ xs, x.oneCell' = true) :
    Calls Try.prog 40 #[v, .int .i64 i, .int .i64 (i + 1)] w (DelPostS w v n i xs) := by
  obtain ⟨i0, hi0, hz0, hz1, hz2⟩ := info_parts dinfoS
  have hxl : xs.length = n := by simpa using hown.1
  obtain ⟨g, c, cur, rfl, hnc, hcm, hg, hcs, htk⟩ := Ux.own_pos hown (by omega)
  rw [Nat.mul_one] at hcs htk
  obtain ⟨p, rfl⟩ : ∃ p, n = p + 1 := ⟨n - 1, by omega⟩
  have hcl : cur.toList.length = c := by simpa using hcs
  have hm : (xs.drop (i + 1)).length = p - i := by simp [hxl]
  obtain ⟨A, hA⟩ : ∃ A, xs.take i ++ xs.drop (i + 1) = A := ⟨_, rfl⟩
  have hAl : A.length = p := by rw [← hA]; simp [hxl]; omega
  -- the append
  obtain ⟨W1, hap, hg1, ht1⟩ : ∃ W1, (∀ ty sc, ∀ so m : Nat, m = p - i → (so = i + 1 ∨ m = 0) → (Builtin.append_ #[22, 22] ty #[.slice (some ⟨g, 0, none⟩) i c, .slice (some ⟨g, so, none⟩) m sc]).run Try.prog w.drew = .ok (.slice (some ⟨g, 0, none⟩) p c) W1) ∧
      W1.heap[g]? = some (.cells (A ++ cur.toList.drop p).toArray 9 (0, 0)) ∧ Ux.Touch (· = g) w W1 := by
    refine ⟨_, fun ty sc so m hmm hso => ?_, setRow_heap w.drew g cur _ 9 (0, 0) hg, ((Ux.Touch.refl (· = g) w).drew).setRow (fun _ => rfl) _⟩
    subst hmm
    have := run_append_room (P := Try.prog) w.drew 22 ty 9 i0 Try.underlying22 hi0 g i c cur hg ⟨g, so, none⟩ (p - i) sc (xs.drop (i + 1)) (by rw [hz1, hm, Nat.mul_one]) (fun j u hj => by
      have hjl : j < (xs.drop (i + 1)).length := (List.getElem?_eq_some_iff.1 hj).1
      have hso' : so = i + 1 := hso.resolve_right (by omega)
      subst hso'
      rw [Addr.add_lit]
      refine Ux.row_cell (w := w.drew) hg htk _ _ ?_
      rw [List.getElem?_drop] at hj
      exact hj) (fun u hu => h1 u (List.mem_of_mem_drop hu)) (by omega) (by rw [hz1, hm, hcs]; omega)
    rw [this, hz1, hm, Nat.mul_one, show i + (p - i) = p by omega]
    have e1 : cur.toList.take i = xs.take i := by rw [← htk, List.take_take, Nat.min_eq_left (by omega)]
    rw [e1, hA]
  obtain ⟨W2, hcl2, hg2, ht2⟩ : ∃ W2, (∀ ty sc, (Builtin.clear_ #[22] ty #[.slice (some ⟨g, p, none⟩) 1 sc]).run Try.prog W1 = .ok (.tuple #[]) W2) ∧
      (∃ rest, W2.heap[g]? = some (.cells (A ++ rest).toArray 9 (0, 0)) ∧ p + rest.length = c) ∧ Ux.Touch (· = g) w W2 := by
    refine ⟨_, fun ty sc => Ux.run_clear_own W1 22 9 ty (.string ⟨#[]⟩) Try.underlying22 dzeroS rfl rfl g p 1 sc _ 9 hg1 (by simp [hAl]; omega), ⟨.string ⟨#[]⟩ :: cur.toList.drop (p + 1), ?_, by simp; omega⟩, ht1.setRow (fun _ => rfl) _⟩
    rw [setRow_heap W1 g _ _ 9 (0, 0) hg1]
    simp only [List.toList_toArray]
    rw [List.take_append_of_le_length (by omega), List.take_of_length_le (by omega), List.drop_append, List.drop_eq_nil_of_le (by omega), hAl, List.nil_append, List.drop_drop]
    simp only [List.replicate_one, List.append_assoc, List.singleton_append]
    rw [show p + (p + 1 - p) = p + 1 by omega]
  obtain ⟨rest, hg2, hrl⟩ := hg2
  have hfin : W2.ownsRow 0 9 1 (.slice (some ⟨g, 0, none⟩) p c) p A := by
    refine ⟨by simpa using hAl, .inr ⟨g, c, _, rfl, Nat.zero_le _, hg2, by omega, hcm, by simp [hAl]; omega, ?_⟩⟩
    simp only [List.toList_toArray, Nat.mul_one]
    rw [List.take_append_of_le_length (by omega), List.take_of_length_le (by omega)]
  have b0 : (0 : Int) ≤ i := by omega
  have b1 : (i : Int) + 1 ≤ (p : Int) + 1 := by omega
  have b2 : ¬ c = i := by omega
  have b3 : ((i : Int) == (i : Int) + 1) = false := by simp; omega
  have b4 : (p : Int) + 1 ≤ c := by omega
  have b5 : (i : Int) ≤ c := by omega
  have b6 : (i : Int) ≤ (i : Int) + 1 := by omega
  have b66 : (i : Int) ≤ (p : Int) + 1 := by omega
  have b7 : ¬ c = p := by omega
  have b10 : (p : Int) ≤ (p : Int) + 1 := by omega
  have b12 : (i : Int) + 1 ≤ c := by omega
  have b13 : (p : Int) ≤ c := by omega
  unfold maxLen at hcm
  have HF := Lib.hid hfin
  have HA := Lib.hid hap
  have HQ := Lib.hid hA
  clear hg1 ht1 hg2 hfin hap hown hg htk h1 hi0 hz0 hz1 hz2 hm hxl hcl hcs hrl hAl hA
  have fin : ∀ e, e = Ending.returned (.slice (some ⟨g, 0, none⟩) p c) → DelPostS w (.slice (some ⟨g, 0, none⟩) (p + 1) c) (p + 1) i xs e W2 := fun e he =>
    ⟨_, he, by rw [HQ.out]; exact HF.out, ht2.mono (fun k _ hk => by rw [hk]; rfl), rfl, by simp [Value.ownBlock]⟩
  have FIN := Lib.hid fin
  clear fin
  by_cases hcn : c = i + 1
  · obtain rfl : i = p := by omega
    subst hcn
    go_enter Try.func40, Try.ntmps40
    go_wp2
    refine Ux.wp_region_plan (fun _ _ => True) (.q [0, 1, 2, 3, 4, 5] (.e 6 false false (.line [7])))
      (by kernel_rfl) (by kernel_rfl) (by intro _ _ d _ _ h; cases d <;> exact h) ?hS ?_
    case hS => (intro c; cases c <;> (simp only [World.cell?_drew]; first | exact True.intro | (refine ⟨?_, ?_⟩ <;> assumption) | assumption | (repeat (first | assumption | (refine And.intro ?_ ?_)))))
    simp only [Ux.wpPlan, Ux.pickOps, Ux.keeps, List.getElem?_toArray, List.getElem?_cons_succ, List.getElem?_cons_zero]
    repeat (first
      | go_big_quiet_step (fail)
      | (with_reducible refine wpQuiet_nil ?_)
      | (refine Ux.quiet_held rfl ?_; apply Exists.intro; refine ⟨fun w' hS => ?_, ?_⟩; (focus ((try dsimp only at hS); go_simp; first | done | with_reducible rfl)); simp only [Act.put, List.setIfInBounds_toArray, List.set_cons_zero, List.set_cons_succ]))
    go_wp2_with (at_builtin; refine Lib.wpList_append_run _ rfl _ _ _ _ rfl _ _ rfl rfl _ _ (HA.out _ _ _ _ ?_ ?_) ?_; (focus omega); (focus omega))
    go_ret
    exact FIN.out _ rfl
  · go_enter Try.func40, Try.ntmps40
    go_wp2
    refine Ux.wp_region_plan (fun _ _ => True) (.q [0, 1, 2, 3, 4, 5] (.e 6 false false (.line [7])))
      (by kernel_rfl) (by kernel_rfl) (by intro _ _ d _ _ h; cases d <;> exact h) ?hS ?_
    case hS => (intro c; cases c <;> (simp only [World.cell?_drew]; first | exact True.intro | (refine ⟨?_, ?_⟩ <;> assumption) | assumption | (repeat (first | assumption | (refine And.intro ?_ ?_)))))
    simp only [Ux.wpPlan, Ux.pickOps, Ux.keeps, List.getElem?_toArray, List.getElem?_cons_succ, List.getElem?_cons_zero]
    repeat (first
      | go_big_quiet_step (fail)
      | (with_reducible refine wpQuiet_nil ?_)
      | (refine Ux.quiet_held rfl ?_; apply Exists.intro; refine ⟨fun w' hS => ?_, ?_⟩; (focus ((try dsimp only at hS); go_simp; first | done | with_reducible rfl)); simp only [Act.put, List.setIfInBounds_toArray, List.set_cons_zero, List.set_cons_succ]))
    go_wp2_with (at_builtin; refine Lib.wpList_append_run _ rfl _ _ _ _ rfl _ _ rfl rfl _ _ (HA.out _ _ _ _ ?_ ?_) ?_; (focus omega); (focus omega))
    go_ret
    exact FIN.out _ rfl

-- slices.Delete of one element: I
theorem dinfoI : (Try.prog.info? 3).map (fun i => (i.zero, i.size, i.bytes)) = some (some (.int .i64 0), 1, 8) := by kernel_rfl
theorem dzeroI (w : World) : (zeroValue 3).run Try.prog w = .ok (.int .i64 0) w := by kernel_rfl

/-- what slices.Delete of one element gives -/
def DelPostI (w : World) (v : Value) (n i : Nat) (xs : List Value) (e : Ending) (w' : World) : Prop :=
  ∃ v', e = .returned v' ∧ w'.ownsRow 0 3 1 v' (n - 1) (xs.take i ++ xs.drop (i + 1)) ∧ Ux.Touch (fun k => v.ownBlock = some k) w w' ∧ v'.ownBlock = v.ownBlock ∧ v'.ownBlock ≠ none

set_option maxHeartbeats 1000000 in
set_option maxRecDepth 100000 in
theorem deleteI (v : Value) (n i : Nat) (xs : List Value) (w : World) (hown : w.ownsRow 0 3 1 v n xs) (hi : i < n) (h1 : ∀ x ∈ xs, x.oneCell' = true) :
    Calls Try.prog 41 #[v, .int .i64 i, .int .i64 (i + 1)] w (DelPostI w v n i xs) := by
  obtain ⟨i0, hi0, hz0, hz1, hz2⟩ := info_parts dinfoI
  have hxl : xs.length = n := by simpa using hown.1
  obtain ⟨g, c, cur, rfl, hnc, hcm, hg, hcs, htk⟩ := Ux.own_pos hown (by omega)
  rw [Nat.mul_one] at hcs htk
  obtain ⟨p, rfl⟩ : ∃ p, n = p + 1 := ⟨n - 1, by omega⟩
  have hcl : cur.toList.length = c := by simpa using hcs
  have hm : (xs.drop (i + 1)).length = p - i := by simp [hxl]
  obtain ⟨A, hA⟩ : ∃ A, xs.take i ++ xs.drop (i + 1) = A := ⟨_, rfl⟩
  have hAl : A.length = p := by rw [← hA]; simp [hxl]; omega
  -- the append
  obtain ⟨W1, hap, hg1, ht1⟩ : ∃ W1, (∀ ty sc, ∀ so m : Nat, m = p - i → (so = i + 1 ∨ m = 0) → (Builtin.append_ #[40, 40] ty #[.slice (some ⟨g, 0, none⟩) i c, .slice (some ⟨g, so, none⟩) m sc]).run Try.prog w.drew = .ok (.slice (some ⟨g, 0, none⟩) p c) W1) ∧
      W1.heap[g]? = some (.cells (A ++ cur.toList.drop p).toArray 3 (0, 0)) ∧ Ux.Touch (· = g) w W1 := by
    refine ⟨_, fun ty sc so m hmm hso => ?_, setRow_heap w.drew g cur _ 3 (0, 0) hg, ((Ux.Touch.refl (· = g) w).drew).setRow (fun _ => rfl) _⟩
    subst hmm
    have := run_append_room (P := Try.prog) w.drew 40 ty 3 i0 Try.underlying40 hi0 g i c cur hg ⟨g, so, none⟩ (p - i) sc (xs.drop (i + 1)) (by rw [hz1, hm, Nat.mul_one]) (fun j u hj => by
      have hjl : j < (xs.drop (i + 1)).length := (List.getElem?_eq_some_iff.1 hj).1
      have hso' : so = i + 1 := hso.resolve_right (by omega)
      subst hso'
      rw [Addr.add_lit]
      refine Ux.row_cell (w := w.drew) hg htk _ _ ?_
      rw [List.getElem?_drop] at hj
      exact hj) (fun u hu => h1 u (List.mem_of_mem_drop hu)) (by omega) (by rw [hz1, hm, hcs]; omega)
    rw [this, hz1, hm, Nat.mul_one, show i + (p - i) = p by omega]
    have e1 : cur.toList.take i = xs.take i := by rw [← htk, List.take_take, Nat.min_eq_left (by omega)]
    rw [e1, hA]
  obtain ⟨W2, hcl2, hg2, ht2⟩ : ∃ W2, (∀ ty sc, (Builtin.clear_ #[40] ty #[.slice (some ⟨g, p, none⟩) 1 sc]).run Try.prog W1 = .ok (.tuple #[]) W2) ∧
      (∃ rest, W2.heap[g]? = some (.cells (A ++ rest).toArray 3 (0, 0)) ∧ p + rest.length = c) ∧ Ux.Touch (· = g) w W2 := by
    refine ⟨_, fun ty sc => Ux.run_clear_own W1 40 3 ty (.int .i64 0) Try.underlying40 dzeroI rfl rfl g p 1 sc _ 3 hg1 (by simp [hAl]; omega), ⟨.int .i64 0 :: cur.toList.drop (p + 1), ?_, by simp; omega⟩, ht1.setRow (fun _ => rfl) _⟩
    rw [setRow_heap W1 g _ _ 3 (0, 0) hg1]
    simp only [List.toList_toArray]
    rw [List.take_append_of_le_length (by omega), List.take_of_length_le (by omega), List.drop_append, List.drop_eq_nil_of_le (by omega), hAl, List.nil_append, List.drop_drop]
    simp only [List.replicate_one, List.append_assoc, List.singleton_append]
    rw [show p + (p + 1 - p) = p + 1 by omega]
  obtain ⟨rest, hg2, hrl⟩ := hg2
  have hfin : W2.ownsRow 0 3 1 (.slice (some ⟨g, 0, none⟩) p c) p A := by
    refine ⟨by simpa using hAl, .inr ⟨g, c, _, rfl, Nat.zero_le _, hg2, by omega, hcm, by simp [hAl]; omega, ?_⟩⟩
    simp only [List.toList_toArray, Nat.mul_one]
    rw [List.take_append_of_le_length (by omega), List.take_of_length_le (by omega)]
  have b0 : (0 : Int) ≤ i := by omega
  have b1 : (i : Int) + 1 ≤ (p : Int) + 1 := by omega
  have b2 : ¬ c = i := by omega
  have b3 : ((i : Int) == (i : Int) + 1) = false := by simp; omega
  have b4 : (p : Int) + 1 ≤ c := by omega
  have b5 : (i : Int) ≤ c := by omega
  have b6 : (i : Int) ≤ (i : Int) + 1 := by omega
  have b66 : (i : Int) ≤ (p : Int) + 1 := by omega
  have b7 : ¬ c = p := by omega
  have b10 : (p : Int) ≤ (p : Int) + 1 := by omega
  have b12 : (i : Int) + 1 ≤ c := by omega
  have b13 : (p : Int) ≤ c := by omega
  unfold maxLen at hcm
  have HF := Lib.hid hfin
  have HA := Lib.hid hap
  have HQ := Lib.hid hA
  clear hg1 ht1 hg2 hfin hap hown hg htk h1 hi0 hz0 hz1 hz2 hm hxl hcl hcs hrl hAl hA
  have fin : ∀ e, e = Ending.returned (.slice (some ⟨g, 0, none⟩) p c) → DelPostI w (.slice (some ⟨g, 0, none⟩) (p + 1) c) (p + 1) i xs e W2 := fun e he =>
    ⟨_, he, by rw [HQ.out]; exact HF.out, ht2.mono (fun k _ hk => by rw [hk]; rfl), rfl, by simp [Value.ownBlock]⟩
  have FIN := Lib.hid fin
  clear fin
  by_cases hcn : c = i + 1
  · obtain rfl : i = p := by omega
    subst hcn
    go_enter Try.func41, Try.ntmps41
    go_wp2
    refine Ux.wp_region_plan (fun _ _ => True) (.q [0, 1, 2, 3, 4, 5] (.e 6 false false (.line [7])))
      (by kernel_rfl) (by kernel_rfl) (by intro _ _ d _ _ h; cases d <;> exact h) ?hS ?_
    case hS => (intro c; cases c <;> (simp only [World.cell?_drew]; first | exact True.intro | (refine ⟨?_, ?_⟩ <;> assumption) | assumption | (repeat (first | assumption | (refine And.intro ?_ ?_)))))
    simp only [Ux.wpPlan, Ux.pickOps, Ux.keeps, List.getElem?_toArray, List.getElem?_cons_succ, List.getElem?_cons_zero]
    repeat (first
      | go_big_quiet_step (fail)
      | (with_reducible refine wpQuiet_nil ?_)
      | (refine Ux.quiet_held rfl ?_; apply Exists.intro; refine ⟨fun w' hS => ?_, ?_⟩; (focus ((try dsimp only at hS); go_simp; first | done | with_reducible rfl)); simp only [Act.put, List.setIfInBounds_toArray, List.set_cons_zero, List.set_cons_succ]))
    go_wp2_with (at_builtin; refine Lib.wpList_append_run _ rfl _ _ _ _ rfl _ _ rfl rfl _ _ (HA.out _ _ _ _ ?_ ?_) ?_; (focus omega); (focus omega))
    go_ret
    exact FIN.out _ rfl
  · go_enter Try.func41, Try.ntmps41
    go_wp2
    refine Ux.wp_region_plan (fun _ _ => True) (.q [0, 1, 2, 3, 4, 5] (.e 6 false false (.line [7])))
      (by kernel_rfl) (by kernel_rfl) (by intro _ _ d _ _ h; cases d <;> exact h) ?hS ?_
    case hS => (intro c; cases c <;> (simp only [World.cell?_drew]; first | exact True.intro | (refine ⟨?_, ?_⟩ <;> assumption) | assumption | (repeat (first | assumption | (refine And.intro ?_ ?_)))))
    simp only [Ux.wpPlan, Ux.pickOps, Ux.keeps, List.getElem?_toArray, List.getElem?_cons_succ, List.getElem?_cons_zero]
    repeat (first
      | go_big_quiet_step (fail)
      | (with_reducible refine wpQuiet_nil ?_)
      | (refine Ux.quiet_held rfl ?_; apply Exists.intro; refine ⟨fun w' hS => ?_, ?_⟩; (focus ((try dsimp only at hS); go_simp; first | done | with_reducible rfl)); simp only [Act.put, List.setIfInBounds_toArray, List.set_cons_zero, List.set_cons_succ]))
    go_wp2_with (at_builtin; refine Lib.wpList_append_run _ rfl _ _ _ _ rfl _ _ rfl rfl _ _ (HA.out _ _ _ _ ?_ ?_) ?_; (focus omega); (focus omega))
    go_ret
    exact FIN.out _ rfl

-- slices.Delete of one element: P
theorem dinfoP : (Try.prog.info? 59).map (fun i => (i.zero, i.size, i.bytes)) = some (some (.pointer none), 1, 8) := by kernel_rfl
theorem dzeroP (w : World) : (zeroValue 59).run Try.prog w = .ok (.pointer none) w := by kernel_rfl

/-- what slices.Delete of one element gives -/
def DelPostP (w : World) (v : Value) (n i : Nat) (xs : List Value) (e : Ending) (w' : World) : Prop :=
  ∃ v', e = .returned v' ∧ w'.ownsRow 0 59 1 v' (n - 1) (xs.take i ++ xs.drop (i + 1)) ∧ Ux.Touch (fun k => v.ownBlock = some k) w w' ∧ v'.ownBlock = v.ownBlock ∧ v'.ownBlock ≠ none

set_option maxHeartbeats 1000000 in
set_option maxRecDepth 100000 in
theorem deleteP (v : Value) (n i : Nat) (xs : List Value) (w : World) (hown : w.ownsRow 0 59 1 v n xs) (hi : i < n) (h1 : ∀ x ∈ xs, x.oneCell' = true) :
    Calls Try.prog 55 #[v, .int .i64 i, .int .i64 (i + 1)] w (DelPostP w v n i xs) := by
  obtain ⟨i0, hi0, hz0, hz1, hz2⟩ := info_parts dinfoP
  have hxl : xs.length = n := by simpa using hown.1
  obtain ⟨g, c, cur, rfl, hnc, hcm, hg, hcs, htk⟩ := Ux.own_pos hown (by omega)
  rw [Nat.mul_one] at hcs htk
  obtain ⟨p, rfl⟩ : ∃ p, n = p + 1 := ⟨n - 1, by omega⟩
  have hcl : cur.toList.length = c := by simpa using hcs
  have hm : (xs.drop (i + 1)).length = p - i := by simp [hxl]
  obtain ⟨A, hA⟩ : ∃ A, xs.take i ++ xs.drop (i + 1) = A := ⟨_, rfl⟩
  have hAl : A.length = p := by rw [← hA]; simp [hxl]; omega
  -- the append
  obtain ⟨W1, hap, hg1, ht1⟩ : ∃ W1, (∀ ty sc, ∀ so m : Nat, m = p - i → (so = i + 1 ∨ m = 0) → (Builtin.append_ #[60, 60] ty #[.slice (some ⟨g, 0, none⟩) i c, .slice (some ⟨g, so, none⟩) m sc]).run Try.prog w.drew = .ok (.slice (some ⟨g, 0, none⟩) p c) W1) ∧
      W1.heap[g]? = some (.cells (A ++ cur.toList.drop p).toArray 59 (0, 0)) ∧ Ux.Touch (· = g) w W1 := by
    refine ⟨_, fun ty sc so m hmm hso => ?_, setRow_heap w.drew g cur _ 59 (0, 0) hg, ((Ux.Touch.refl (· = g) w).drew).setRow (fun _ => rfl) _⟩
    subst hmm
    have := run_append_room (P := Try.prog) w.drew 60 ty 59 i0 Try.underlying60 hi0 g i c cur hg ⟨g, so, none⟩ (p - i) sc (xs.drop (i + 1)) (by rw [hz1, hm, Nat.mul_one]) (fun j u hj => by
      have hjl : j < (xs.drop (i + 1)).length := (List.getElem?_eq_some_iff.1 hj).1
      have hso' : so = i + 1 := hso.resolve_right (by omega)
      subst hso'
      rw [Addr.add_lit]
      refine Ux.row_cell (w := w.drew) hg htk _ _ ?_
      rw [List.getElem?_drop] at hj
      exact hj) (fun u hu => h1 u (List.mem_of_mem_drop hu)) (by omega) (by rw [hz1, hm, hcs]; omega)
    rw [this, hz1, hm, Nat.mul_one, show i + (p - i) = p by omega]
    have e1 : cur.toList.take i = xs.take i := by rw [← htk, List.take_take, Nat.min_eq_left (by omega)]
    rw [e1, hA]
  obtain ⟨W2, hcl2, hg2, ht2⟩ : ∃ W2, (∀ ty sc, (Builtin.clear_ #[60] ty #[.slice (some ⟨g, p, none⟩) 1 sc]).run Try.prog W1 = .ok (.tuple #[]) W2) ∧
      (∃ rest, W2.heap[g]? = some (.cells (A ++ rest).toArray 59 (0, 0)) ∧ p + rest.length = c) ∧ Ux.Touch (· = g) w W2 := by
    refine ⟨_, fun ty sc => Ux.run_clear_own W1 60 59 ty (.pointer none) Try.underlying60 dzeroP rfl rfl g p 1 sc _ 59 hg1 (by simp [hAl]; omega), ⟨.pointer none :: cur.toList.drop (p + 1), ?_, by simp; omega⟩, ht1.setRow (fun _ => rfl) _⟩
    rw [setRow_heap W1 g _ _ 59 (0, 0) hg1]
    simp only [List.toList_toArray]
    rw [List.take_append_of_le_length (by omega), List.take_of_length_le (by omega), List.drop_append, List.drop_eq_nil_of_le (by omega), hAl, List.nil_append, List.drop_drop]
    simp only [List.replicate_one, List.append_assoc, List.singleton_append]
    rw [show p + (p + 1 - p) = p + 1 by omega]
  obtain ⟨rest, hg2, hrl⟩ := hg2
  have hfin : W2.ownsRow 0 59 1 (.slice (some ⟨g, 0, none⟩) p c) p A := by
    refine ⟨by simpa using hAl, .inr ⟨g, c, _, rfl, Nat.zero_le _, hg2, by omega, hcm, by simp [hAl]; omega, ?_⟩⟩
    simp only [List.toList_toArray, Nat.mul_one]
    rw [List.take_append_of_le_length (by omega), List.take_of_length_le (by omega)]
  have b0 : (0 : Int) ≤ i := by omega
  have b1 : (i : Int) + 1 ≤ (p : Int) + 1 := by omega
  have b2 : ¬ c = i := by omega
  have b3 : ((i : Int) == (i : Int) + 1) = false := by simp; omega
  have b4 : (p : Int) + 1 ≤ c := by omega
  have b5 : (i : Int) ≤ c := by omega
  have b6 : (i : Int) ≤ (i : Int) + 1 := by omega
  have b66 : (i : Int) ≤ (p : Int) + 1 := by omega
  have b7 : ¬ c = p := by omega
  have b10 : (p : Int) ≤ (p : Int) + 1 := by omega
  have b12 : (i : Int) + 1 ≤ c := by omega
  have b13 : (p : Int) ≤ c := by omega
  unfold maxLen at hcm
  have HF := Lib.hid hfin
  have HA := Lib.hid hap
  have HQ := Lib.hid hA
  clear hg1 ht1 hg2 hfin hap hown hg htk h1 hi0 hz0 hz1 hz2 hm hxl hcl hcs hrl hAl hA
  have fin : ∀ e, e = Ending.returned (.slice (some ⟨g, 0, none⟩) p c) → DelPostP w (.slice (some ⟨g, 0, none⟩) (p + 1) c) (p + 1) i xs e W2 := fun e he =>
    ⟨_, he, by rw [HQ.out]; exact HF.out, ht2.mono (fun k _ hk => by rw [hk]; rfl), rfl, by simp [Value.ownBlock]⟩
  have FIN := Lib.hid fin
  clear fin
  by_cases hcn : c = i + 1
  · obtain rfl : i = p := by omega
    subst hcn
    go_enter Try.func55, Try.ntmps55
    go_wp2
    refine Ux.wp_region_plan (fun _ _ => True) (.q [0, 1, 2, 3, 4, 5] (.e 6 false false (.line [7])))
      (by kernel_rfl) (by kernel_rfl) (by intro _ _ d _ _ h; cases d <;> exact h) ?hS ?_
    case hS => (intro c; cases c <;> (simp only [World.cell?_drew]; first | exact True.intro | (refine ⟨?_, ?_⟩ <;> assumption) | assumption | (repeat (first | assumption | (refine And.intro ?_ ?_)))))
    simp only [Ux.wpPlan, Ux.pickOps, Ux.keeps, List.getElem?_toArray, List.getElem?_cons_succ, List.getElem?_cons_zero]
    repeat (first
      | go_big_quiet_step (fail)
      | (with_reducible refine wpQuiet_nil ?_)
      | (refine Ux.quiet_held rfl ?_; apply Exists.intro; refine ⟨fun w' hS => ?_, ?_⟩; (focus ((try dsimp only at hS); go_simp; first | done | with_reducible rfl)); simp only [Act.put, List.setIfInBounds_toArray, List.set_cons_zero, List.set_cons_succ]))
    go_wp2_with (at_builtin; refine Lib.wpList_append_run _ rfl _ _ _ _ rfl _ _ rfl rfl _ _ (HA.out _ _ _ _ ?_ ?_) ?_; (focus omega); (focus omega))
    go_ret
    exact FIN.out _ rfl
  · go_enter Try.func55, Try.ntmps55
    go_wp2
    refine Ux.wp_region_plan (fun _ _ => True) (.q [0, 1, 2, 3, 4, 5] (.e 6 false false (.line [7])))
      (by kernel_rfl) (by kernel_rfl) (by intro _ _ d _ _ h; cases d <;> exact h) ?hS ?_
    case hS => (intro c; cases c <;> (simp only [World.cell?_drew]; first | exact True.intro | (refine ⟨?_, ?_⟩ <;> assumption) | assumption | (repeat (first | assumption | (refine And.intro ?_ ?_)))))
    simp only [Ux.wpPlan, Ux.pickOps, Ux.keeps, List.getElem?_toArray, List.getElem?_cons_succ, List.getElem?_cons_zero]
    repeat (first
      | go_big_quiet_step (fail)
      | (with_reducible refine wpQuiet_nil ?_)
      | (refine Ux.quiet_held rfl ?_; apply Exists.intro; refine ⟨fun w' hS => ?_, ?_⟩; (focus ((try dsimp only at hS); go_simp; first | done | with_reducible rfl)); simp only [Act.put, List.setIfInBounds_toArray, List.set_cons_zero, List.set_cons_succ]))
    go_wp2_with (at_builtin; refine Lib.wpList_append_run _ rfl _ _ _ _ rfl _ _ rfl rfl _ _ (HA.out _ _ _ _ ?_ ?_) ?_; (focus omega); (focus omega))
    go_ret
    exact FIN.out _ rfl

end Go.Proofs.Ytdfgpminonpeaaa
