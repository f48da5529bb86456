/- PART OF THE PROOF THAT THIS CLAIM HOLDS OF THE GIVEN PROGRAM, FOR EVERY INPUT THAT THE STATEMENT NAMES. No condition besides the statement's own. -/
import Derived.Test.YtdfgpminonpeaaaRows
import Derived.WalkKit
import Derived.Handy
import Derived.Laws.EntriesVeiled
import Derived.WalkSpells
import Derived.WalkLawsBesides
import Derived.BigQuiet
import Derived.Deep.QuietTactic
import Derived.Deep.Cut
import Derived.Lib.Overlaps
import Derived.Laws.Externs
import Derived.Lib.Hide
import Derived.Test.YtdfgpminonpeaaaUxPlanAllZ
import Derived.Test.YtdfgpminonpeaaaUxTreeAllZ
import Derived.Deep.LoopGhost
namespace Go.Proofs.Ytdfgpminonpeaaa
open Go.RowKit
-- slices.Insert at one value: S
theorem infoS : (Try.prog.info? 9).map (fun i => (i.zero, i.size, i.bytes)) = some (some (.string ⟨#[]⟩), 1, 16) := by kernel_rfl
theorem zeroS (w : World) : (zeroValue 9).run Try.prog w = .ok (.string ⟨#[]⟩) w := by kernel_rfl
theorem oneS : (Try.prog.info? 9).map (·.size) = some 1 := by kernel_rfl

set_option maxHeartbeats 1000000 in
set_option maxRecDepth 100000 in
theorem insertS_shift (g n c i vb : Nat) (cur : Array Value) (u : Value) (w : World) (hg : w.heap[g]? = some (.cells cur 9 (0, 0))) (hcs : cur.size = c) (hi : i < n) (hnc : n + 1 ≤ c) (hc63 : c ≤ maxLen)
    (h1 : ∀ v ∈ (cur.toList.drop i).take (n - i), v.oneCell' = true) (hu1 : u.oneCell' = true) (hv : w.heap[vb]? = some (.cells #[u] 9 (0, 0))) (hvg : vb ≠ g) :
    Calls Try.prog 31 #[.slice (some ⟨g, 0, none⟩) n c, .int .i64 i, .slice (some ⟨vb, 0, none⟩) 1 1] w fun e w' => e = .returned (.slice (some ⟨g, 0, none⟩) (n + 1) c) ∧
      w'.heap[g]? = some (.cells (cur.toList.take i ++ u :: ((cur.toList.drop i).take (n - i) ++ cur.toList.drop (n + 1))).toArray 9 (0, 0)) ∧ Ux.Touch (· = g) w w' := by
  have hz1 : ∀ w, (Go.sizeOf 9).run Try.prog w = .ok 1 w := fun w => by kernel_rfl
  have hov : ∀ lb cb, (callFunc 46 #[.slice (some ⟨vb, 0, none⟩) 1 1, .slice (some ⟨g, i + 1, none⟩) lb cb]).run Try.prog w = .ok (.value (.bool false)) w := fun lb cb => by
    rw [run_callFunc_extern Try.func46 (by kernel_rfl) (by kernel_rfl) (by kernel_rfl) (e := Extern.SlicesOverlaps.overlaps #[22, 22] #[4]) (by kernel_rfl),
      Lib.run_overlaps_apart w 22 4 9 Try.underlying22 1 hz1 ⟨vb, 0, none⟩ ⟨g, i + 1, none⟩ 1 1 lb cb hvg 9 9 1 c (by simp [World.shape?, hv]) (by simp [World.shape?, hg, hcs]) (by omega) (by simp [World.frozen?, hv]) (by simp [World.frozen?, hv])]
    rfl
  have hl1 : cur.toList.length = c := by simpa using hcs
  have hdl : ((cur.toList.drop i).take (n - i)).length = n - i := by simp; omega
  obtain ⟨W1, hcp1, hg2, hv2, ht1⟩ : ∃ W1, (∀ ty dc sc, (Builtin.copy_ #[22, 22] ty #[.slice (some ⟨g, i + 1, none⟩) (n - i) dc, .slice (some ⟨g, i, none⟩) (n + 1 - i) sc]).run Try.prog w.drew = .ok (.int .i64 ((n : Int) - i)) W1) ∧
      W1.heap[g]? = some (.cells (cur.toList.take (i + 1) ++ (cur.toList.drop i).take (n - i) ++ cur.toList.drop (n + 1)).toArray 9 (0, 0)) ∧ W1.heap[vb]? = some (.cells #[u] 9 (0, 0)) ∧ Ux.Touch (· = g) w W1 := by
    refine ⟨_, fun ty dc sc => ?_, setRow_heap w.drew g cur _ 9 (0, 0) hg, by rw [setRow_other _ _ _ _ hvg]; exact hv, ((Ux.Touch.refl (· = g) w).drew).setRow (fun _ => rfl) _⟩
    have := Ux.run_copy_own (P := Try.prog) w.drew 22 22 ty 9 Try.underlying22 oneS g (i + 1) (n - i) dc (some ⟨g, i, none⟩) (n + 1 - i) sc cur 9 hg ((cur.toList.drop i).take (n - i)) (by rw [hdl]; simp only [Nat.min_def]; split <;> omega)
      (fun j x hj => ⟨_, rfl, by
        rw [Addr.add_lit]
        rw [cell_of_row w.drew g (i + j) cur 9 (0, 0) hg]
        rw [List.getElem?_take] at hj
        split at hj
        · rw [List.getElem?_drop] at hj; simpa using hj
        · cases hj⟩) (by rw [hdl]; omega) h1
    rw [hdl] at this
    rw [this, show i + 1 + (n - i) = n + 1 by omega]
    simp only [goInt, Int.ofNat_sub (Nat.le_of_lt hi)]
  have e1 : (cur.toList.take (i + 1) ++ (cur.toList.drop i).take (n - i) ++ cur.toList.drop (n + 1)).take i = cur.toList.take i := by
    rw [List.append_assoc, List.take_append_of_le_length (by simp; omega), List.take_take, Nat.min_eq_left (by omega)]
  have e2 : (cur.toList.take (i + 1) ++ (cur.toList.drop i).take (n - i) ++ cur.toList.drop (n + 1)).drop (i + 1) = (cur.toList.drop i).take (n - i) ++ cur.toList.drop (n + 1) := by
    rw [List.append_assoc, List.drop_append_of_le_length (by simp; omega)]
    simp
  obtain ⟨W2, hcp2, hfin, ht2⟩ : ∃ W2, (∀ ty dc, (Builtin.copy_ #[22, 22] ty #[.slice (some ⟨g, i, none⟩) (n + 1 - i) dc, .slice (some ⟨vb, 0, none⟩) 1 1]).run Try.prog W1 = .ok (.int .i64 1) W2) ∧
      W2.heap[g]? = some (.cells (cur.toList.take i ++ u :: ((cur.toList.drop i).take (n - i) ++ cur.toList.drop (n + 1))).toArray 9 (0, 0)) ∧ Ux.Touch (· = g) w W2 := by
    refine ⟨_, fun ty dc => ?_, setRow_heap W1 g _ _ 9 (0, 0) hg2, ht1.setRow (fun _ => rfl) _⟩
    have := Ux.run_copy_own (P := Try.prog) W1 22 22 ty 9 Try.underlying22 oneS g i (n + 1 - i) dc (some ⟨vb, 0, none⟩) 1 1 _ 9 hg2 [u] (by simp only [Nat.min_def, List.length_singleton]; split <;> omega)
      (fun j x hj => ⟨_, rfl, by
        rw [Addr.add_lit, cell_of_row _ vb _ #[u] 9 (0, 0) hv2]
        cases j with
        | zero => simpa using hj
        | succ j => simp at hj⟩) (by simp; omega) (fun x hx => by simp at hx; subst hx; exact hu1)
    rw [this]
    simp only [goInt, List.length_singleton, List.toList_toArray, e1, e2]
    simp
  have b0 : (0 : Int) ≤ i := by omega
  have b1 : (i : Int) ≤ n := by omega
  have b2 : ¬ c = i := by omega
  have b3 : ¬ c = i + 1 := by omega
  have b4 : (n : Int) + 1 ≤ c := by omega
  have b5 : ((i : Int) == (n : Int)) = false := by simp; omega
  have b6 : (i : Int) + 1 ≤ (n : Int) + 1 := by omega
  have b7 : decide ((c : Int) < (n : Int) + 1) = false := by simp; omega
  have b8 : ((n : Int) + 1 - ((i : Int) + 1)).toNat = n - i := by omega
  have b9 : n + 1 - (i + 1) = n - i := by omega
  unfold maxLen at hc63
  have HF := Lib.hid hfin
  clear hdl hl1 hcs h1 hu1 hv hg2 hv2 hz1 hg e1 e2 ht1 hfin
  go_enter Try.func31, Try.ntmps31
  go_wp2
  refine Ux.wp_region_plan (fun _ _ => True) (.q [0, 1, 2, 3, 4, 5, 6, 7] (.e 8 false false (.line [])))
    (by kernel_rfl) (by kernel_rfl) (by intro _ _ d _ _ h; cases d <;> exact h) ?hS ?_
  case hS => (intro c; cases c <;> (simp only [World.cell?_drew]; first | exact True.intro | (refine ⟨?_, ?_⟩ <;> assumption) | assumption | (repeat (first | assumption | (refine And.intro ?_ ?_)))))
  simp only [Ux.wpPlan, Ux.pickOps, Ux.keeps, List.getElem?_toArray, List.getElem?_cons_succ, List.getElem?_cons_zero]
  repeat (first
    | go_big_quiet_step (fail)
    | (with_reducible refine wpQuiet_nil ?_)
    | (refine Ux.quiet_held rfl ?_; apply Exists.intro; refine ⟨fun w' hS => ?_, ?_⟩; (focus ((try dsimp only at hS); go_simp; first | done | with_reducible rfl)); simp only [Act.put, List.setIfInBounds_toArray, List.set_cons_zero, List.set_cons_succ]))
  go_wp2
  go_ret
  exact ⟨rfl, HF.out, ht2⟩

set_option maxHeartbeats 1000000 in
set_option maxRecDepth 100000 in
theorem insertS_grow (g n c i vb : Nat) (cur : Array Value) (u : Value) (w : World) (hg : w.heap[g]? = some (.cells cur 9 (0, 0))) (hcs : cur.size = c) (hi : i < n) (hnc : n ≤ c) (hnc2 : c < n + 1) (hn31 : n ≤ 2147483648)
    (h1 : ∀ v ∈ (cur.toList.drop i).take (n - i), v.oneCell' = true) (hu1 : u.oneCell' = true) (hv : w.heap[vb]? = some (.cells #[u] 9 (0, 0))) :
    Calls Try.prog 31 #[.slice (some ⟨g, 0, none⟩) n c, .int .i64 i, .slice (some ⟨vb, 0, none⟩) 1 1] w fun e w' => ∃ c' rest, e = .returned (.slice (some ⟨w.heap.size, 0, none⟩) (n + 1) c') ∧ n + 1 ≤ c' ∧ c' ≤ maxLen ∧ (n + 1) + rest.length = c' ∧
      w'.heap[w.heap.size]? = some (.cells (cur.toList.take i ++ u :: ((cur.toList.drop i).take (n - i) ++ rest)).toArray 9 (0, 0)) ∧ Ux.Touch (fun _ => False) w w' := by
  obtain ⟨i0, hi0, hz0, hz1, hz2⟩ := info_parts infoS
  have hl1 : cur.toList.length = c := by simpa using hcs
  have hglt := Ux.lt_of_heap hg
  have hvlt := Ux.lt_of_heap hv
  have hdl : ((cur.toList.drop i).take (n - i)).length = n - i := by simp; omega
  obtain ⟨W1, c', cur1, hap, hb1, hs1, hc1, hc2, htk, ht1⟩ : ∃ (W1 : World) (c' : Nat) (cur1 : Array Value), (∀ ty, (Builtin.append_ #[22, 3] ty #[.slice (some ⟨g, 0, none⟩) i c, .int .i64 ((n : Int) + 1 - i)]).run Try.prog w = .ok (.slice (some ⟨w.heap.size, 0, none⟩) (n + 1) c') W1) ∧
      W1.heap[w.heap.size]? = some (.cells cur1 9 (0, 0)) ∧ cur1.size = c' ∧ n + 1 ≤ c' ∧ c' ≤ maxLen ∧ cur1.toList.take i = cur.toList.take i ∧ Ux.Touch (fun _ => False) w W1 := by
    have hbnd : (n + 1) * 16 ≤ 140737488355328 := by omega
    have key := fun ty => Ux.run_app_zeros (P := Try.prog) w 22 3 ty 9 i0 (.string ⟨#[]⟩) .i64 .i64 Try.underlying22 Try.underlying3 hi0 hz0 (by omega) (some ⟨g, 0, none⟩) i c (n + 1 - i) (cur.toList.take i) (by simp [hz1]; omega)
      (fun j x hj => ⟨_, rfl, by
        rw [Addr.add_lit, cell_of_row w g _ cur 9 (0, 0) hg, Nat.zero_add]
        rw [List.getElem?_take] at hj
        split at hj
        · simpa using hj
        · cases hj⟩) (by omega) (by omega) (by simp only [maxLen]; omega) (by rw [hz2, show i + (n + 1 - i) = n + 1 by omega]; exact hbnd)
    rw [show i + (n + 1 - i) = n + 1 by omega] at key
    have hge := grownCap_ge w (n + 1) c 9
    obtain ⟨X, hX⟩ : ∃ X : Array Value, X = (cur.toList.take i).toArray ++ Builtin.zeroCells (.string ⟨#[]⟩ : Value).cells (n + 1 - i) ++ Builtin.zeroCells (.string ⟨#[]⟩ : Value).cells (grownCap w (n + 1) c 9 - (n + 1)) := ⟨_, rfl⟩
    rw [← hX] at key
    refine ⟨w.drew.alloc (.cells X 9), grownCap w (n + 1) c 9, X, fun ty => ?_, heap_alloc_new w.drew _, ?_, hge, grownCap_le_maxLen w (n + 1) c 9 (by simp only [maxLen]; omega), ?_, ((Ux.Touch.refl (fun _ => False) w).drew).alloc _⟩
    · rw [← key ty, show (n : Int) + 1 - i = ((n + 1 - i : Nat) : Int) by omega]
    · rw [hX]; simp [size_zeroCells, Value.cells]; omega
    · rw [hX]
      simp only [Array.toList_append, List.append_assoc]
      rw [List.take_append_of_le_length (by simp; omega), List.take_take, Nat.min_self]
  have hg1 := ht1.heap hg (fun f => f)
  have hv1 := ht1.heap hv (fun f => f)
  obtain ⟨W2, hcp1, hb2, ht2⟩ : ∃ W2, (∀ ty dc, (Builtin.copy_ #[22, 22] ty #[.slice (some ⟨w.heap.size, i, none⟩) (n + 1 - i) dc, .slice (some ⟨vb, 0, none⟩) 1 1]).run Try.prog W1 = .ok (.int .i64 1) W2) ∧
      W2.heap[w.heap.size]? = some (.cells (cur.toList.take i ++ u :: cur1.toList.drop (i + 1)).toArray 9 (0, 0)) ∧ Ux.Touch (fun _ => False) w W2 := by
    refine ⟨_, fun ty dc => ?_, setRow_heap W1 w.heap.size _ _ 9 (0, 0) hb1, ht1.setRow (fun h => absurd h (Nat.lt_irrefl _)) _⟩
    have := Ux.run_copy_own (P := Try.prog) W1 22 22 ty 9 Try.underlying22 oneS w.heap.size i (n + 1 - i) dc (some ⟨vb, 0, none⟩) 1 1 _ 9 hb1 [u] (by simp only [Nat.min_def, List.length_singleton]; split <;> omega)
      (fun j x hj => ⟨_, rfl, by
        rw [Addr.add_lit, cell_of_row _ vb _ #[u] 9 (0, 0) hv1]
        cases j with
        | zero => simpa using hj
        | succ j => simp at hj⟩) (by simp; omega) (fun x hx => by simp at hx; subst hx; exact hu1)
    rw [this]
    simp only [goInt, List.length_singleton, htk]
    simp
  have hg2 := ht2.heap hg (fun f => f)
  have hlen2 : (cur.toList.take i ++ u :: cur1.toList.drop (i + 1)).length = c' := by simp; omega
  obtain ⟨W3, hcp2, hb3, ht3⟩ : ∃ W3, (∀ ty dc sc, (Builtin.copy_ #[22, 22] ty #[.slice (some ⟨w.heap.size, i + 1, none⟩) (n - i) dc, .slice (some ⟨g, i, none⟩) (n - i) sc]).run Try.prog W2.drew = .ok (.int .i64 ((n : Int) - i)) W3) ∧
      W3.heap[w.heap.size]? = some (.cells (cur.toList.take i ++ u :: ((cur.toList.drop i).take (n - i) ++ cur1.toList.drop (n + 1))).toArray 9 (0, 0)) ∧ Ux.Touch (fun _ => False) w W3 := by
    refine ⟨_, fun ty dc sc => ?_, setRow_heap W2.drew w.heap.size _ _ 9 (0, 0) hb2, ht2.drew.setRow (fun h => absurd h (Nat.lt_irrefl _)) _⟩
    have := Ux.run_copy_own (P := Try.prog) W2.drew 22 22 ty 9 Try.underlying22 oneS w.heap.size (i + 1) (n - i) dc (some ⟨g, i, none⟩) (n - i) sc _ 9 hb2 ((cur.toList.drop i).take (n - i)) (by rw [hdl]; simp)
      (fun j x hj => ⟨_, rfl, by
        rw [Addr.add_lit]
        rw [cell_of_row W2.drew g (i + j) cur 9 (0, 0) hg2]
        rw [List.getElem?_take] at hj
        split at hj
        · rw [List.getElem?_drop] at hj; simpa using hj
        · cases hj⟩) (by rw [hdl]; simp only [List.size_toArray, hlen2]; omega) h1
    rw [hdl] at this
    rw [this]
    have e1 : (cur.toList.take i ++ u :: cur1.toList.drop (i + 1)).take (i + 1) = cur.toList.take i ++ [u] := by
      have hx : (cur.toList.take i).length = i := by simp; omega
      rw [List.take_append, hx]
      simp [List.take_take]
    have e2 : (cur.toList.take i ++ u :: cur1.toList.drop (i + 1)).drop (i + 1 + (n - i)) = cur1.toList.drop (n + 1) := by
      have hx : (cur.toList.take i).length = i := by simp; omega
      rw [List.drop_append, hx, show i + 1 + (n - i) - i = (n - i) + 1 by omega, List.drop_succ_cons, List.drop_drop, List.drop_eq_nil_of_le (by omega), List.nil_append, show i + 1 + (n - i) = n + 1 by omega]
    simp only [goInt, Int.ofNat_sub (Nat.le_of_lt hi), List.toList_toArray, e1, e2]
    simp
  have b0 : (0 : Int) ≤ i := by omega
  have b1 : (i : Int) ≤ n := by omega
  have b2 : ¬ c = i := by omega
  have b3 : ¬ c' = i := by omega
  have b33 : ¬ c' = i + 1 := by omega
  have b4 : (c : Int) < (n : Int) + 1 := by omega
  have b44 : (n : Int) ≤ c := by omega
  have b5 : ((i : Int) == (n : Int)) = false := by simp; omega
  have b6 : (i : Int) + 1 ≤ (n : Int) + 1 := by omega
  have b66 : (i : Int) ≤ (n : Int) + 1 := by omega
  have b7 : decide ((c : Int) < (n : Int) + 1) = true := by simp; omega
  have b8 : ((n : Int) + 1 - ((i : Int) + 1)).toNat = n - i := by omega
  have b9 : n + 1 - (i + 1) = n - i := by omega
  have hc3 : c' ≤ 9223372036854775807 := by unfold maxLen at hc2; exact hc2
  have hrl : (n + 1) + (cur1.toList.drop (n + 1)).length = c' := by simp; omega
  have HF := Lib.hid hb3
  have HX := Lib.hid hc2
  have HL := Lib.hid hrl
  have HA := Lib.hid hap
  clear hdl hl1 hcs h1 hu1 hv hz1 hg ht1 hg1 hv1 hg2 hb1 hb2 ht2 hb3 hc2 htk hz0 hz2 hi0 hs1 hlen2 hrl hap
  go_enter Try.func31, Try.ntmps31
  go_wp2_with (at_builtin; refine Lib.wpList_append_run _ rfl _ _ _ _ rfl _ _ rfl rfl _ _ (HA.out _) ?_)
  refine Ux.wp_region_plan (fun _ _ => True) (.q [0, 1, 2, 3, 4, 5, 6, 7] (.e 8 false false (.line [])))
    (by kernel_rfl) (by kernel_rfl) (by intro _ _ d _ _ h; cases d <;> exact h) ?hS ?_
  case hS => (intro c; cases c <;> (simp only [World.cell?_drew]; first | exact True.intro | (refine ⟨?_, ?_⟩ <;> assumption) | assumption | (repeat (first | assumption | (refine And.intro ?_ ?_)))))
  simp only [Ux.wpPlan, Ux.pickOps, Ux.keeps, List.getElem?_toArray, List.getElem?_cons_succ, List.getElem?_cons_zero]
  repeat (first
    | go_big_quiet_step (fail)
    | (with_reducible refine wpQuiet_nil ?_)
    | (refine Ux.quiet_held rfl ?_; apply Exists.intro; refine ⟨fun w' hS => ?_, ?_⟩; (focus ((try dsimp only at hS); go_simp; first | done | with_reducible rfl)); simp only [Act.put, List.setIfInBounds_toArray, List.set_cons_zero, List.set_cons_succ]))
  go_wp2
  go_ret
  exact ⟨_, _, rfl, hc1, HX.out, HL.out, HF.out, ht3⟩

set_option maxHeartbeats 1000000 in
set_option maxRecDepth 100000 in
theorem insertS_end (v : Value) (n vb : Nat) (xs : List Value) (u : Value) (w : World) (hown : w.ownsRow 0 9 1 v n xs) (hn31 : n ≤ 2147483648)
    (hu1 : u.oneCell' = true) (hv : w.heap[vb]? = some (.cells #[u] 9 (0, 0))) :
    Calls Try.prog 31 #[v, .int .i64 n, .slice (some ⟨vb, 0, none⟩) 1 1] w fun e w' => ∃ v', e = .returned v' ∧ w'.ownsRow 0 9 1 v' (n + 1) (xs ++ [u]) ∧ Ux.Touch (fun k => v.ownBlock = some k) w w' ∧ (v'.ownBlock = v.ownBlock ∨ ∃ g, v'.ownBlock = some g ∧ w.heap.size ≤ g) := by
  obtain ⟨i0, hi0, hz0, hz1, hz2⟩ := info_parts infoS
  have hbnd : (n + 1) * 16 ≤ 140737488355328 := by omega
  have hsrc : Src Try.prog 1 22 (.slice (some ⟨vb, 0, none⟩) 1 1) 1 [u] w := Src.ofSlice w Try.underlying22 ⟨vb, 0, none⟩ 1 1 [u] rfl (fun j x hj => by
    rw [Addr.add_lit, cell_of_row w vb _ #[u] 9 (0, 0) hv]
    cases j with
    | zero => simpa using hj
    | succ j => simp at hj) (fun x hx => by simp at hx; subst hx; exact hu1)
  obtain ⟨v', w1, hap, ho1, ht1, hb1, _⟩ := Ux.run_app (P := Try.prog) w 22 22 9 i0 (.string ⟨#[]⟩) 1 16 Try.underlying22 hi0 hz0 hz1 hz2 rfl (by omega) v n xs hown (.slice (some ⟨vb, 0, none⟩) 1 1) 1 [u] hsrc (by simp only [maxLen]; omega) hbnd
  have HO := Lib.hid ho1
  have HA := Lib.hid hap
  rcases hown.2 with ⟨rfl, rfl⟩ | ⟨g, c, cur, rfl, _, hg, hnc, hcm, hcs, htk⟩
  · clear hown hsrc hi0 hz0 hz1 hz2 hap ho1 hv hbnd
    go_enter Try.func31, Try.ntmps31
    go_wp2_with (at_builtin; refine Lib.wpList_append_run _ rfl _ _ _ _ rfl _ _ rfl rfl _ _ HA.out ?_)
    go_ret
    exact ⟨_, rfl, HO.out, ht1, hb1⟩
  · have b0 : (0 : Int) ≤ n := by omega
    have b5 : ((n : Int) == (n : Int)) = true := by simp
    have HT := Lib.hid ht1
    have HB := Lib.hid hb1
    unfold maxLen at hcm
    clear hown hsrc hi0 hz0 hz1 hz2 hap ho1 hv hbnd htk hcs hg hb1 ht1
    by_cases hcn : c = n
    · subst hcn
      go_enter Try.func31, Try.ntmps31
      go_wp2_with (at_builtin; refine Lib.wpList_append_run _ rfl _ _ _ _ rfl _ _ rfl rfl _ _ HA.out ?_)
      go_ret
      exact ⟨_, rfl, HO.out, HT.out, HB.out⟩
    · go_enter Try.func31, Try.ntmps31
      go_wp2_with (at_builtin; refine Lib.wpList_append_run _ rfl _ _ _ _ rfl _ _ rfl rfl _ _ HA.out ?_)
      go_ret
      exact ⟨_, rfl, HO.out, HT.out, HB.out⟩

/-- what slices.Insert at one value gives -/
def InsPostS (w : World) (v : Value) (n i : Nat) (xs : List Value) (u : Value) (e : Ending) (w' : World) : Prop :=
  ∃ v', e = .returned v' ∧ w'.ownsRow 0 9 1 v' (n + 1) (xs.take i ++ u :: xs.drop i) ∧ Ux.Touch (fun k => v.ownBlock = some k) w w' ∧ (v'.ownBlock = v.ownBlock ∨ ∃ g, v'.ownBlock = some g ∧ w.heap.size ≤ g)

theorem insertS (v : Value) (n i vb : Nat) (xs : List Value) (u : Value) (w : World) (hown : w.ownsRow 0 9 1 v n xs) (hi : i ≤ n) (hn31 : n ≤ 2147483648)
    (h1 : ∀ x ∈ xs, x.oneCell' = true)
    (hu1 : u.oneCell' = true) (hv : w.heap[vb]? = some (.cells #[u] 9 (0, 0))) (hvg : v.ownBlock ≠ some vb) :
    Calls Try.prog 31 #[v, .int .i64 i, .slice (some ⟨vb, 0, none⟩) 1 1] w (InsPostS w v n i xs u) := by
  have hxl : xs.length = n := by simpa using hown.1
  by_cases hin : i = n
  · subst hin
    refine (insertS_end v i vb xs u w hown hn31 hu1 hv).mono fun e w' ⟨v', he, ho, ht, hb⟩ => ⟨v', he, ?_, ht, hb⟩
    rw [List.take_of_length_le (by omega), List.drop_eq_nil_of_le (by omega)]
    exact ho
  · obtain ⟨g, c, cur, rfl, hnc, hcm, hg, hcs, htk⟩ := Ux.own_pos hown (by omega)
    rw [Nat.mul_one] at hcs htk
    have hvg' : vb ≠ g := fun e => hvg (by rw [e]; rfl)
    have hd : (cur.toList.drop i).take (n - i) = xs.drop i := by rw [← htk, List.drop_take]
    have h1' : ∀ x ∈ (cur.toList.drop i).take (n - i), x.oneCell' = true := fun x hx => h1 x (List.mem_of_mem_drop (by rw [← hd]; exact hx))
    have ht : cur.toList.take i = xs.take i := by rw [← htk, List.take_take, Nat.min_eq_left (by omega)]
    have hl : (xs.take i ++ u :: xs.drop i).length = n + 1 := by simp; omega
    have hcl : cur.toList.length = c := by simpa using hcs
    by_cases hroom : n + 1 ≤ c
    · refine (insertS_shift g n c i vb cur u w hg hcs (by omega) hroom hcm h1' hu1 hv hvg').mono fun e w' ⟨he, hh, ht'⟩ => ⟨_, he, ⟨by simpa using hl, .inr ⟨g, c, _, rfl, Nat.zero_le _, hh, hroom, hcm, ?_, ?_⟩⟩, ht'.mono (fun k _ hk => by rw [hk]; rfl), .inl rfl⟩
      · simp; omega
      · simp only [hd, ht, Nat.mul_one, List.toList_toArray]
        rw [← List.cons_append, ← List.append_assoc, List.take_append_of_le_length (by omega), List.take_of_length_le (by omega)]
    · refine (insertS_grow g n c i vb cur u w hg hcs (by omega) hnc (by omega) hn31 h1' hu1 hv).mono fun e w' ⟨c', rest, he, hc1, hc2, hr, hh, ht'⟩ => ⟨_, he, ⟨by simpa using hl, .inr ⟨w.heap.size, c', _, rfl, Nat.zero_le _, hh, hc1, hc2, ?_, ?_⟩⟩, ht'.mono (fun k _ hk => hk.elim), .inr ⟨_, rfl, Nat.le_refl _⟩⟩
      · simp; omega
      · simp only [hd, ht, Nat.mul_one, List.toList_toArray]
        rw [← List.cons_append, ← List.append_assoc, List.take_append_of_le_length (by omega), List.take_of_length_le (by omega)]

-- slices.Insert at one value: I
theorem infoI : (Try.prog.info? 3).map (fun i => (i.zero, i.size, i.bytes)) = some (some (.int .i64 0), 1, 8) := by kernel_rfl
theorem zeroI (w : World) : (zeroValue 3).run Try.prog w = .ok (.int .i64 0) w := by kernel_rfl
theorem oneI : (Try.prog.info? 3).map (·.size) = some 1 := by kernel_rfl

set_option maxHeartbeats 1000000 in
set_option maxRecDepth 100000 in
theorem insertI_shift (g n c i vb : Nat) (cur : Array Value) (u : Value) (w : World) (hg : w.heap[g]? = some (.cells cur 3 (0, 0))) (hcs : cur.size = c) (hi : i < n) (hnc : n + 1 ≤ c) (hc63 : c ≤ maxLen)
    (h1 : ∀ v ∈ (cur.toList.drop i).take (n - i), v.oneCell' = true) (hu1 : u.oneCell' = true) (hv : w.heap[vb]? = some (.cells #[u] 3 (0, 0))) (hvg : vb ≠ g) :
    Calls Try.prog 32 #[.slice (some ⟨g, 0, none⟩) n c, .int .i64 i, .slice (some ⟨vb, 0, none⟩) 1 1] w fun e w' => e = .returned (.slice (some ⟨g, 0, none⟩) (n + 1) c) ∧
      w'.heap[g]? = some (.cells (cur.toList.take i ++ u :: ((cur.toList.drop i).take (n - i) ++ cur.toList.drop (n + 1))).toArray 3 (0, 0)) ∧ Ux.Touch (· = g) w w' := by
  have hz1 : ∀ w, (Go.sizeOf 3).run Try.prog w = .ok 1 w := fun w => by kernel_rfl
  have hov : ∀ lb cb, (callFunc 48 #[.slice (some ⟨vb, 0, none⟩) 1 1, .slice (some ⟨g, i + 1, none⟩) lb cb]).run Try.prog w = .ok (.value (.bool false)) w := fun lb cb => by
    rw [run_callFunc_extern Try.func48 (by kernel_rfl) (by kernel_rfl) (by kernel_rfl) (e := Extern.SlicesOverlaps.overlaps #[40, 40] #[4]) (by kernel_rfl),
      Lib.run_overlaps_apart w 40 4 3 Try.underlying40 1 hz1 ⟨vb, 0, none⟩ ⟨g, i + 1, none⟩ 1 1 lb cb hvg 3 3 1 c (by simp [World.shape?, hv]) (by simp [World.shape?, hg, hcs]) (by omega) (by simp [World.frozen?, hv]) (by simp [World.frozen?, hv])]
    rfl
  have hl1 : cur.toList.length = c := by simpa using hcs
  have hdl : ((cur.toList.drop i).take (n - i)).length = n - i := by simp; omega
  obtain ⟨W1, hcp1, hg2, hv2, ht1⟩ : ∃ W1, (∀ ty dc sc, (Builtin.copy_ #[40, 40] ty #[.slice (some ⟨g, i + 1, none⟩) (n - i) dc, .slice (some ⟨g, i, none⟩) (n + 1 - i) sc]).run Try.prog w.drew = .ok (.int .i64 ((n : Int) - i)) W1) ∧
      W1.heap[g]? = some (.cells (cur.toList.take (i + 1) ++ (cur.toList.drop i).take (n - i) ++ cur.toList.drop (n + 1)).toArray 3 (0, 0)) ∧ W1.heap[vb]? = some (.cells #[u] 3 (0, 0)) ∧ Ux.Touch (· = g) w W1 := by
    refine ⟨_, fun ty dc sc => ?_, setRow_heap w.drew g cur _ 3 (0, 0) hg, by rw [setRow_other _ _ _ _ hvg]; exact hv, ((Ux.Touch.refl (· = g) w).drew).setRow (fun _ => rfl) _⟩
    have := Ux.run_copy_own (P := Try.prog) w.drew 40 40 ty 3 Try.underlying40 oneI g (i + 1) (n - i) dc (some ⟨g, i, none⟩) (n + 1 - i) sc cur 3 hg ((cur.toList.drop i).take (n - i)) (by rw [hdl]; simp only [Nat.min_def]; split <;> omega)
      (fun j x hj => ⟨_, rfl, by
        rw [Addr.add_lit]
        rw [cell_of_row w.drew g (i + j) cur 3 (0, 0) hg]
        rw [List.getElem?_take] at hj
        split at hj
        · rw [List.getElem?_drop] at hj; simpa using hj
        · cases hj⟩) (by rw [hdl]; omega) h1
    rw [hdl] at this
    rw [this, show i + 1 + (n - i) = n + 1 by omega]
    simp only [goInt, Int.ofNat_sub (Nat.le_of_lt hi)]
  have e1 : (cur.toList.take (i + 1) ++ (cur.toList.drop i).take (n - i) ++ cur.toList.drop (n + 1)).take i = cur.toList.take i := by
    rw [List.append_assoc, List.take_append_of_le_length (by simp; omega), List.take_take, Nat.min_eq_left (by omega)]
  have e2 : (cur.toList.take (i + 1) ++ (cur.toList.drop i).take (n - i) ++ cur.toList.drop (n + 1)).drop (i + 1) = (cur.toList.drop i).take (n - i) ++ cur.toList.drop (n + 1) := by
    rw [List.append_assoc, List.drop_append_of_le_length (by simp; omega)]
    simp
  obtain ⟨W2, hcp2, hfin, ht2⟩ : ∃ W2, (∀ ty dc, (Builtin.copy_ #[40, 40] ty #[.slice (some ⟨g, i, none⟩) (n + 1 - i) dc, .slice (some ⟨vb, 0, none⟩) 1 1]).run Try.prog W1 = .ok (.int .i64 1) W2) ∧
      W2.heap[g]? = some (.cells (cur.toList.take i ++ u :: ((cur.toList.drop i).take (n - i) ++ cur.toList.drop (n + 1))).toArray 3 (0, 0)) ∧ Ux.Touch (· = g) w W2 := by
    refine ⟨_, fun ty dc => ?_, setRow_heap W1 g _ _ 3 (0, 0) hg2, ht1.setRow (fun _ => rfl) _⟩
    have := Ux.run_copy_own (P := Try.prog) W1 40 40 ty 3 Try.underlying40 oneI g i (n + 1 - i) dc (some ⟨vb, 0, none⟩) 1 1 _ 3 hg2 [u] (by simp only [Nat.min_def, List.length_singleton]; split <;> omega)
      (fun j x hj => ⟨_, rfl, by
        rw [Addr.add_lit, cell_of_row _ vb _ #[u] 3 (0, 0) hv2]
        cases j with
        | zero => simpa using hj
        | succ j => simp at hj⟩) (by simp; omega) (fun x hx => by simp at hx; subst hx; exact hu1)
    rw [this]
    simp only [goInt, List.length_singleton, List.toList_toArray, e1, e2]
    simp
  have b0 : (0 : Int) ≤ i := by omega
  have b1 : (i : Int) ≤ n := by omega
  have b2 : ¬ c = i := by omega
  have b3 : ¬ c = i + 1 := by omega
  have b4 : (n : Int) + 1 ≤ c := by omega
  have b5 : ((i : Int) == (n : Int)) = false := by simp; omega
  have b6 : (i : Int) + 1 ≤ (n : Int) + 1 := by omega
  have b7 : decide ((c : Int) < (n : Int) + 1) = false := by simp; omega
  have b8 : ((n : Int) + 1 - ((i : Int) + 1)).toNat = n - i := by omega
  have b9 : n + 1 - (i + 1) = n - i := by omega
  unfold maxLen at hc63
  have HF := Lib.hid hfin
  clear hdl hl1 hcs h1 hu1 hv hg2 hv2 hz1 hg e1 e2 ht1 hfin
  go_enter Try.func32, Try.ntmps32
  go_wp2
  refine Ux.wp_region_plan (fun _ _ => True) (.q [0, 1, 2, 3, 4, 5, 6, 7] (.e 8 false false (.line [])))
    (by kernel_rfl) (by kernel_rfl) (by intro _ _ d _ _ h; cases d <;> exact h) ?hS ?_
  case hS => (intro c; cases c <;> (simp only [World.cell?_drew]; first | exact True.intro | (refine ⟨?_, ?_⟩ <;> assumption) | assumption | (repeat (first | assumption | (refine And.intro ?_ ?_)))))
  simp only [Ux.wpPlan, Ux.pickOps, Ux.keeps, List.getElem?_toArray, List.getElem?_cons_succ, List.getElem?_cons_zero]
  repeat (first
    | go_big_quiet_step (fail)
    | (with_reducible refine wpQuiet_nil ?_)
    | (refine Ux.quiet_held rfl ?_; apply Exists.intro; refine ⟨fun w' hS => ?_, ?_⟩; (focus ((try dsimp only at hS); go_simp; first | done | with_reducible rfl)); simp only [Act.put, List.setIfInBounds_toArray, List.set_cons_zero, List.set_cons_succ]))
  go_wp2
  go_ret
  exact ⟨rfl, HF.out, ht2⟩

set_option maxHeartbeats 1000000 in
set_option maxRecDepth 100000 in
theorem insertI_grow (g n c i vb : Nat) (cur : Array Value) (u : Value) (w : World) (hg : w.heap[g]? = some (.cells cur 3 (0, 0))) (hcs : cur.size = c) (hi : i < n) (hnc : n ≤ c) (hnc2 : c < n + 1) (hn31 : n ≤ 2147483648)
    (h1 : ∀ v ∈ (cur.toList.drop i).take (n - i), v.oneCell' = true) (hu1 : u.oneCell' = true) (hv : w.heap[vb]? = some (.cells #[u] 3 (0, 0))) :
    Calls Try.prog 32 #[.slice (some ⟨g, 0, none⟩) n c, .int .i64 i, .slice (some ⟨vb, 0, none⟩) 1 1] w fun e w' => ∃ c' rest, e = .returned (.slice (some ⟨w.heap.size, 0, none⟩) (n + 1) c') ∧ n + 1 ≤ c' ∧ c' ≤ maxLen ∧ (n + 1) + rest.length = c' ∧
      w'.heap[w.heap.size]? = some (.cells (cur.toList.take i ++ u :: ((cur.toList.drop i).take (n - i) ++ rest)).toArray 3 (0, 0)) ∧ Ux.Touch (fun _ => False) w w' := by
  obtain ⟨i0, hi0, hz0, hz1, hz2⟩ := info_parts infoI
  have hl1 : cur.toList.length = c := by simpa using hcs
  have hglt := Ux.lt_of_heap hg
  have hvlt := Ux.lt_of_heap hv
  have hdl : ((cur.toList.drop i).take (n - i)).length = n - i := by simp; omega
  obtain ⟨W1, c', cur1, hap, hb1, hs1, hc1, hc2, htk, ht1⟩ : ∃ (W1 : World) (c' : Nat) (cur1 : Array Value), (∀ ty, (Builtin.append_ #[40, 3] ty #[.slice (some ⟨g, 0, none⟩) i c, .int .i64 ((n : Int) + 1 - i)]).run Try.prog w = .ok (.slice (some ⟨w.heap.size, 0, none⟩) (n + 1) c') W1) ∧
      W1.heap[w.heap.size]? = some (.cells cur1 3 (0, 0)) ∧ cur1.size = c' ∧ n + 1 ≤ c' ∧ c' ≤ maxLen ∧ cur1.toList.take i = cur.toList.take i ∧ Ux.Touch (fun _ => False) w W1 := by
    have hbnd : (n + 1) * 8 ≤ 140737488355328 := by omega
    have key := fun ty => Ux.run_app_zeros (P := Try.prog) w 40 3 ty 3 i0 (.int .i64 0) .i64 .i64 Try.underlying40 Try.underlying3 hi0 hz0 (by omega) (some ⟨g, 0, none⟩) i c (n + 1 - i) (cur.toList.take i) (by simp [hz1]; omega)
      (fun j x hj => ⟨_, rfl, by
        rw [Addr.add_lit, cell_of_row w g _ cur 3 (0, 0) hg, Nat.zero_add]
        rw [List.getElem?_take] at hj
        split at hj
        · simpa using hj
        · cases hj⟩) (by omega) (by omega) (by simp only [maxLen]; omega) (by rw [hz2, show i + (n + 1 - i) = n + 1 by omega]; exact hbnd)
    rw [show i + (n + 1 - i) = n + 1 by omega] at key
    have hge := grownCap_ge w (n + 1) c 3
    obtain ⟨X, hX⟩ : ∃ X : Array Value, X = (cur.toList.take i).toArray ++ Builtin.zeroCells (.int .i64 0 : Value).cells (n + 1 - i) ++ Builtin.zeroCells (.int .i64 0 : Value).cells (grownCap w (n + 1) c 3 - (n + 1)) := ⟨_, rfl⟩
    rw [← hX] at key
    refine ⟨w.drew.alloc (.cells X 3), grownCap w (n + 1) c 3, X, fun ty => ?_, heap_alloc_new w.drew _, ?_, hge, grownCap_le_maxLen w (n + 1) c 3 (by simp only [maxLen]; omega), ?_, ((Ux.Touch.refl (fun _ => False) w).drew).alloc _⟩
    · rw [← key ty, show (n : Int) + 1 - i = ((n + 1 - i : Nat) : Int) by omega]
    · rw [hX]; simp [size_zeroCells, Value.cells]; omega
    · rw [hX]
      simp only [Array.toList_append, List.append_assoc]
      rw [List.take_append_of_le_length (by simp; omega), List.take_take, Nat.min_self]
  have hg1 := ht1.heap hg (fun f => f)
  have hv1 := ht1.heap hv (fun f => f)
  obtain ⟨W2, hcp1, hb2, ht2⟩ : ∃ W2, (∀ ty dc, (Builtin.copy_ #[40, 40] ty #[.slice (some ⟨w.heap.size, i, none⟩) (n + 1 - i) dc, .slice (some ⟨vb, 0, none⟩) 1 1]).run Try.prog W1 = .ok (.int .i64 1) W2) ∧
      W2.heap[w.heap.size]? = some (.cells (cur.toList.take i ++ u :: cur1.toList.drop (i + 1)).toArray 3 (0, 0)) ∧ Ux.Touch (fun _ => False) w W2 := by
    refine ⟨_, fun ty dc => ?_, setRow_heap W1 w.heap.size _ _ 3 (0, 0) hb1, ht1.setRow (fun h => absurd h (Nat.lt_irrefl _)) _⟩
    have := Ux.run_copy_own (P := Try.prog) W1 40 40 ty 3 Try.underlying40 oneI w.heap.size i (n + 1 - i) dc (some ⟨vb, 0, none⟩) 1 1 _ 3 hb1 [u] (by simp only [Nat.min_def, List.length_singleton]; split <;> omega)
      (fun j x hj => ⟨_, rfl, by
        rw [Addr.add_lit, cell_of_row _ vb _ #[u] 3 (0, 0) hv1]
        cases j with
        | zero => simpa using hj
        | succ j => simp at hj⟩) (by simp; omega) (fun x hx => by simp at hx; subst hx; exact hu1)
    rw [this]
    simp only [goInt, List.length_singleton, htk]
    simp
  have hg2 := ht2.heap hg (fun f => f)
  have hlen2 : (cur.toList.take i ++ u :: cur1.toList.drop (i + 1)).length = c' := by simp; omega
  obtain ⟨W3, hcp2, hb3, ht3⟩ : ∃ W3, (∀ ty dc sc, (Builtin.copy_ #[40, 40] ty #[.slice (some ⟨w.heap.size, i + 1, none⟩) (n - i) dc, .slice (some ⟨g, i, none⟩) (n - i) sc]).run Try.prog W2.drew = .ok (.int .i64 ((n : Int) - i)) W3) ∧
      W3.heap[w.heap.size]? = some (.cells (cur.toList.take i ++ u :: ((cur.toList.drop i).take (n - i) ++ cur1.toList.drop (n + 1))).toArray 3 (0, 0)) ∧ Ux.Touch (fun _ => False) w W3 := by
    refine ⟨_, fun ty dc sc => ?_, setRow_heap W2.drew w.heap.size _ _ 3 (0, 0) hb2, ht2.drew.setRow (fun h => absurd h (Nat.lt_irrefl _)) _⟩
    have := Ux.run_copy_own (P := Try.prog) W2.drew 40 40 ty 3 Try.underlying40 oneI w.heap.size (i + 1) (n - i) dc (some ⟨g, i, none⟩) (n - i) sc _ 3 hb2 ((cur.toList.drop i).take (n - i)) (by rw [hdl]; simp)
      (fun j x hj => ⟨_, rfl, by
        rw [Addr.add_lit]
        rw [cell_of_row W2.drew g (i + j) cur 3 (0, 0) hg2]
        rw [List.getElem?_take] at hj
        split at hj
        · rw [List.getElem?_drop] at hj; simpa using hj
        · cases hj⟩) (by rw [hdl]; simp only [List.size_toArray, hlen2]; omega) h1
    rw [hdl] at this
    rw [this]
    have e1 : (cur.toList.take i ++ u :: cur1.toList.drop (i + 1)).take (i + 1) = cur.toList.take i ++ [u] := by
      have hx : (cur.toList.take i).length = i := by simp; omega
      rw [List.take_append, hx]
      simp [List.take_take]
    have e2 : (cur.toList.take i ++ u :: cur1.toList.drop (i + 1)).drop (i + 1 + (n - i)) = cur1.toList.drop (n + 1) := by
      have hx : (cur.toList.take i).length = i := by simp; omega
      rw [List.drop_append, hx, show i + 1 + (n - i) - i = (n - i) + 1 by omega, List.drop_succ_cons, List.drop_drop, List.drop_eq_nil_of_le (by omega), List.nil_append, show i + 1 + (n - i) = n + 1 by omega]
    simp only [goInt, Int.ofNat_sub (Nat.le_of_lt hi), List.toList_toArray, e1, e2]
    simp
  have b0 : (0 : Int) ≤ i := by omega
  have b1 : (i : Int) ≤ n := by omega
  have b2 : ¬ c = i := by omega
  have b3 : ¬ c' = i := by omega
  have b33 : ¬ c' = i + 1 := by omega
  have b4 : (c : Int) < (n : Int) + 1 := by omega
  have b44 : (n : Int) ≤ c := by omega
  have b5 : ((i : Int) == (n : Int)) = false := by simp; omega
  have b6 : (i : Int) + 1 ≤ (n : Int) + 1 := by omega
  have b66 : (i : Int) ≤ (n : Int) + 1 := by omega
  have b7 : decide ((c : Int) < (n : Int) + 1) = true := by simp; omega
  have b8 : ((n : Int) + 1 - ((i : Int) + 1)).toNat = n - i := by omega
  have b9 : n + 1 - (i + 1) = n - i := by omega
  have hc3 : c' ≤ 9223372036854775807 := by unfold maxLen at hc2; exact hc2
  have hrl : (n + 1) + (cur1.toList.drop (n + 1)).length = c' := by simp; omega
  have HF := Lib.hid hb3
  have HX := Lib.hid hc2
  have HL := Lib.hid hrl
  have HA := Lib.hid hap
  clear hdl hl1 hcs h1 hu1 hv hz1 hg ht1 hg1 hv1 hg2 hb1 hb2 ht2 hb3 hc2 htk hz0 hz2 hi0 hs1 hlen2 hrl hap
  go_enter Try.func32, Try.ntmps32
  go_wp2_with (at_builtin; refine Lib.wpList_append_run _ rfl _ _ _ _ rfl _ _ rfl rfl _ _ (HA.out _) ?_)
  refine Ux.wp_region_plan (fun _ _ => True) (.q [0, 1, 2, 3, 4, 5, 6, 7] (.e 8 false false (.line [])))
    (by kernel_rfl) (by kernel_rfl) (by intro _ _ d _ _ h; cases d <;> exact h) ?hS ?_
  case hS => (intro c; cases c <;> (simp only [World.cell?_drew]; first | exact True.intro | (refine ⟨?_, ?_⟩ <;> assumption) | assumption | (repeat (first | assumption | (refine And.intro ?_ ?_)))))
  simp only [Ux.wpPlan, Ux.pickOps, Ux.keeps, List.getElem?_toArray, List.getElem?_cons_succ, List.getElem?_cons_zero]
  repeat (first
    | go_big_quiet_step (fail)
    | (with_reducible refine wpQuiet_nil ?_)
    | (refine Ux.quiet_held rfl ?_; apply Exists.intro; refine ⟨fun w' hS => ?_, ?_⟩; (focus ((try dsimp only at hS); go_simp; first | done | with_reducible rfl)); simp only [Act.put, List.setIfInBounds_toArray, List.set_cons_zero, List.set_cons_succ]))
  go_wp2
  go_ret
  exact ⟨_, _, rfl, hc1, HX.out, HL.out, HF.out, ht3⟩

set_option maxHeartbeats 1000000 in
set_option maxRecDepth 100000 in
theorem insertI_end (v : Value) (n vb : Nat) (xs : List Value) (u : Value) (w : World) (hown : w.ownsRow 0 3 1 v n xs) (hn31 : n ≤ 2147483648)
    (hu1 : u.oneCell' = true) (hv : w.heap[vb]? = some (.cells #[u] 3 (0, 0))) :
    Calls Try.prog 32 #[v, .int .i64 n, .slice (some ⟨vb, 0, none⟩) 1 1] w fun e w' => ∃ v', e = .returned v' ∧ w'.ownsRow 0 3 1 v' (n + 1) (xs ++ [u]) ∧ Ux.Touch (fun k => v.ownBlock = some k) w w' ∧ (v'.ownBlock = v.ownBlock ∨ ∃ g, v'.ownBlock = some g ∧ w.heap.size ≤ g) := by
  obtain ⟨i0, hi0, hz0, hz1, hz2⟩ := info_parts infoI
  have hbnd : (n + 1) * 8 ≤ 140737488355328 := by omega
  have hsrc : Src Try.prog 1 40 (.slice (some ⟨vb, 0, none⟩) 1 1) 1 [u] w := Src.ofSlice w Try.underlying40 ⟨vb, 0, none⟩ 1 1 [u] rfl (fun j x hj => by
    rw [Addr.add_lit, cell_of_row w vb _ #[u] 3 (0, 0) hv]
    cases j with
    | zero => simpa using hj
    | succ j => simp at hj) (fun x hx => by simp at hx; subst hx; exact hu1)
  obtain ⟨v', w1, hap, ho1, ht1, hb1, _⟩ := Ux.run_app (P := Try.prog) w 40 40 3 i0 (.int .i64 0) 1 8 Try.underlying40 hi0 hz0 hz1 hz2 rfl (by omega) v n xs hown (.slice (some ⟨vb, 0, none⟩) 1 1) 1 [u] hsrc (by simp only [maxLen]; omega) hbnd
  have HO := Lib.hid ho1
  have HA := Lib.hid hap
  rcases hown.2 with ⟨rfl, rfl⟩ | ⟨g, c, cur, rfl, _, hg, hnc, hcm, hcs, htk⟩
  · clear hown hsrc hi0 hz0 hz1 hz2 hap ho1 hv hbnd
    go_enter Try.func32, Try.ntmps32
    go_wp2_with (at_builtin; refine Lib.wpList_append_run _ rfl _ _ _ _ rfl _ _ rfl rfl _ _ HA.out ?_)
    go_ret
    exact ⟨_, rfl, HO.out, ht1, hb1⟩
  · have b0 : (0 : Int) ≤ n := by omega
    have b5 : ((n : Int) == (n : Int)) = true := by simp
    have HT := Lib.hid ht1
    have HB := Lib.hid hb1
    unfold maxLen at hcm
    clear hown hsrc hi0 hz0 hz1 hz2 hap ho1 hv hbnd htk hcs hg hb1 ht1
    by_cases hcn : c = n
    · subst hcn
      go_enter Try.func32, Try.ntmps32
      go_wp2_with (at_builtin; refine Lib.wpList_append_run _ rfl _ _ _ _ rfl _ _ rfl rfl _ _ HA.out ?_)
      go_ret
      exact ⟨_, rfl, HO.out, HT.out, HB.out⟩
    · go_enter Try.func32, Try.ntmps32
      go_wp2_with (at_builtin; refine Lib.wpList_append_run _ rfl _ _ _ _ rfl _ _ rfl rfl _ _ HA.out ?_)
      go_ret
      exact ⟨_, rfl, HO.out, HT.out, HB.out⟩

/-- what slices.Insert at one value gives -/
def InsPostI (w : World) (v : Value) (n i : Nat) (xs : List Value) (u : Value) (e : Ending) (w' : World) : Prop :=
  ∃ v', e = .returned v' ∧ w'.ownsRow 0 3 1 v' (n + 1) (xs.take i ++ u :: xs.drop i) ∧ Ux.Touch (fun k => v.ownBlock = some k) w w' ∧ (v'.ownBlock = v.ownBlock ∨ ∃ g, v'.ownBlock = some g ∧ w.heap.size ≤ g)

theorem insertI (v : Value) (n i vb : Nat) (xs : List Value) (u : Value) (w : World) (hown : w.ownsRow 0 3 1 v n xs) (hi : i ≤ n) (hn31 : n ≤ 2147483648)
    (h1 : ∀ x ∈ xs, x.oneCell' = true)
    (hu1 : u.oneCell' = true) (hv : w.heap[vb]? = some (.cells #[u] 3 (0, 0))) (hvg : v.ownBlock ≠ some vb) :
    Calls Try.prog 32 #[v, .int .i64 i, .slice (some ⟨vb, 0, none⟩) 1 1] w (InsPostI w v n i xs u) := by
  have hxl : xs.length = n := by simpa using hown.1
  by_cases hin : i = n
  · subst hin
    refine (insertI_end v i vb xs u w hown hn31 hu1 hv).mono fun e w' ⟨v', he, ho, ht, hb⟩ => ⟨v', he, ?_, ht, hb⟩
    rw [List.take_of_length_le (by omega), List.drop_eq_nil_of_le (by omega)]
    exact ho
  · obtain ⟨g, c, cur, rfl, hnc, hcm, hg, hcs, htk⟩ := Ux.own_pos hown (by omega)
    rw [Nat.mul_one] at hcs htk
    have hvg' : vb ≠ g := fun e => hvg (by rw [e]; rfl)
    have hd : (cur.toList.drop i).take (n - i) = xs.drop i := by rw [← htk, List.drop_take]
    have h1' : ∀ x ∈ (cur.toList.drop i).take (n - i), x.oneCell' = true := fun x hx => h1 x (List.mem_of_mem_drop (by rw [← hd]; exact hx))
    have ht : cur.toList.take i = xs.take i := by rw [← htk, List.take_take, Nat.min_eq_left (by omega)]
    have hl : (xs.take i ++ u :: xs.drop i).length = n + 1 := by simp; omega
    have hcl : cur.toList.length = c := by simpa using hcs
    by_cases hroom : n + 1 ≤ c
    · refine (insertI_shift g n c i vb cur u w hg hcs (by omega) hroom hcm h1' hu1 hv hvg').mono fun e w' ⟨he, hh, ht'⟩ => ⟨_, he, ⟨by simpa using hl, .inr ⟨g, c, _, rfl, Nat.zero_le _, hh, hroom, hcm, ?_, ?_⟩⟩, ht'.mono (fun k _ hk => by rw [hk]; rfl), .inl rfl⟩
      · simp; omega
      · simp only [hd, ht, Nat.mul_one, List.toList_toArray]
        rw [← List.cons_append, ← List.append_assoc, List.take_append_of_le_length (by omega), List.take_of_length_le (by omega)]
    · refine (insertI_grow g n c i vb cur u w hg hcs (by omega) hnc (by omega) hn31 h1' hu1 hv).mono fun e w' ⟨c', rest, he, hc1, hc2, hr, hh, ht'⟩ => ⟨_, he, ⟨by simpa using hl, .inr ⟨w.heap.size, c', _, rfl, Nat.zero_le _, hh, hc1, hc2, ?_, ?_⟩⟩, ht'.mono (fun k _ hk => hk.elim), .inr ⟨_, rfl, Nat.le_refl _⟩⟩
      · simp; omega
      · simp only [hd, ht, Nat.mul_one, List.toList_toArray]
        rw [← List.cons_append, ← List.append_assoc, List.take_append_of_le_length (by omega), List.take_of_length_le (by omega)]

-- slices.Insert at one value: P
theorem infoP : (Try.prog.info? 59).map (fun i => (i.zero, i.size, i.bytes)) = some (some (.pointer none), 1, 8) := by kernel_rfl
theorem zeroP (w : World) : (zeroValue 59).run Try.prog w = .ok (.pointer none) w := by kernel_rfl
theorem oneP : (Try.prog.info? 59).map (·.size) = some 1 := by kernel_rfl

set_option maxHeartbeats 1000000 in
set_option maxRecDepth 100000 in
theorem insertP_shift (g n c i vb : Nat) (cur : Array Value) (u : Value) (w : World) (hg : w.heap[g]? = some (.cells cur 59 (0, 0))) (hcs : cur.size = c) (hi : i < n) (hnc : n + 1 ≤ c) (hc63 : c ≤ maxLen)
    (h1 : ∀ v ∈ (cur.toList.drop i).take (n - i), v.oneCell' = true) (hu1 : u.oneCell' = true) (hv : w.heap[vb]? = some (.cells #[u] 59 (0, 0))) (hvg : vb ≠ g) :
    Calls Try.prog 36 #[.slice (some ⟨g, 0, none⟩) n c, .int .i64 i, .slice (some ⟨vb, 0, none⟩) 1 1] w fun e w' => e = .returned (.slice (some ⟨g, 0, none⟩) (n + 1) c) ∧
      w'.heap[g]? = some (.cells (cur.toList.take i ++ u :: ((cur.toList.drop i).take (n - i) ++ cur.toList.drop (n + 1))).toArray 59 (0, 0)) ∧ Ux.Touch (· = g) w w' := by
  have hz1 : ∀ w, (Go.sizeOf 59).run Try.prog w = .ok 1 w := fun w => by kernel_rfl
  have hov : ∀ lb cb, (callFunc 53 #[.slice (some ⟨vb, 0, none⟩) 1 1, .slice (some ⟨g, i + 1, none⟩) lb cb]).run Try.prog w = .ok (.value (.bool false)) w := fun lb cb => by
    rw [run_callFunc_extern Try.func53 (by kernel_rfl) (by kernel_rfl) (by kernel_rfl) (e := Extern.SlicesOverlaps.overlaps #[60, 60] #[4]) (by kernel_rfl),
      Lib.run_overlaps_apart w 60 4 59 Try.underlying60 1 hz1 ⟨vb, 0, none⟩ ⟨g, i + 1, none⟩ 1 1 lb cb hvg 59 59 1 c (by simp [World.shape?, hv]) (by simp [World.shape?, hg, hcs]) (by omega) (by simp [World.frozen?, hv]) (by simp [World.frozen?, hv])]
    rfl
  have hl1 : cur.toList.length = c := by simpa using hcs
  have hdl : ((cur.toList.drop i).take (n - i)).length = n - i := by simp; omega
  obtain ⟨W1, hcp1, hg2, hv2, ht1⟩ : ∃ W1, (∀ ty dc sc, (Builtin.copy_ #[60, 60] ty #[.slice (some ⟨g, i + 1, none⟩) (n - i) dc, .slice (some ⟨g, i, none⟩) (n + 1 - i) sc]).run Try.prog w.drew = .ok (.int .i64 ((n : Int) - i)) W1) ∧
      W1.heap[g]? = some (.cells (cur.toList.take (i + 1) ++ (cur.toList.drop i).take (n - i) ++ cur.toList.drop (n + 1)).toArray 59 (0, 0)) ∧ W1.heap[vb]? = some (.cells #[u] 59 (0, 0)) ∧ Ux.Touch (· = g) w W1 := by
    refine ⟨_, fun ty dc sc => ?_, setRow_heap w.drew g cur _ 59 (0, 0) hg, by rw [setRow_other _ _ _ _ hvg]; exact hv, ((Ux.Touch.refl (· = g) w).drew).setRow (fun _ => rfl) _⟩
    have := Ux.run_copy_own (P := Try.prog) w.drew 60 60 ty 59 Try.underlying60 oneP g (i + 1) (n - i) dc (some ⟨g, i, none⟩) (n + 1 - i) sc cur 59 hg ((cur.toList.drop i).take (n - i)) (by rw [hdl]; simp only [Nat.min_def]; split <;> omega)
      (fun j x hj => ⟨_, rfl, by
        rw [Addr.add_lit]
        rw [cell_of_row w.drew g (i + j) cur 59 (0, 0) hg]
        rw [List.getElem?_take] at hj
        split at hj
        · rw [List.getElem?_drop] at hj; simpa using hj
        · cases hj⟩) (by rw [hdl]; omega) h1
    rw [hdl] at this
    rw [this, show i + 1 + (n - i) = n + 1 by omega]
    simp only [goInt, Int.ofNat_sub (Nat.le_of_lt hi)]
  have e1 : (cur.toList.take (i + 1) ++ (cur.toList.drop i).take (n - i) ++ cur.toList.drop (n + 1)).take i = cur.toList.take i := by
    rw [List.append_assoc, List.take_append_of_le_length (by simp; omega), List.take_take, Nat.min_eq_left (by omega)]
  have e2 : (cur.toList.take (i + 1) ++ (cur.toList.drop i).take (n - i) ++ cur.toList.drop (n + 1)).drop (i + 1) = (cur.toList.drop i).take (n - i) ++ cur.toList.drop (n + 1) := by
    rw [List.append_assoc, List.drop_append_of_le_length (by simp; omega)]
    simp
  obtain ⟨W2, hcp2, hfin, ht2⟩ : ∃ W2, (∀ ty dc, (Builtin.copy_ #[60, 60] ty #[.slice (some ⟨g, i, none⟩) (n + 1 - i) dc, .slice (some ⟨vb, 0, none⟩) 1 1]).run Try.prog W1 = .ok (.int .i64 1) W2) ∧
      W2.heap[g]? = some (.cells (cur.toList.take i ++ u :: ((cur.toList.drop i).take (n - i) ++ cur.toList.drop (n + 1))).toArray 59 (0, 0)) ∧ Ux.Touch (· = g) w W2 := by
    refine ⟨_, fun ty dc => ?_, setRow_heap W1 g _ _ 59 (0, 0) hg2, ht1.setRow (fun _ => rfl) _⟩
    have := Ux.run_copy_own (P := Try.prog) W1 60 60 ty 59 Try.underlying60 oneP g i (n + 1 - i) dc (some ⟨vb, 0, none⟩) 1 1 _ 59 hg2 [u] (by simp only [Nat.min_def, List.length_singleton]; split <;> omega)
      (fun j x hj => ⟨_, rfl, by
        rw [Addr.add_lit, cell_of_row _ vb _ #[u] 59 (0, 0) hv2]
        cases j with
        | zero => simpa using hj
        | succ j => simp at hj⟩) (by simp; omega) (fun x hx => by simp at hx; subst hx; exact hu1)
    rw [this]
    simp only [goInt, List.length_singleton, List.toList_toArray, e1, e2]
    simp
  have b0 : (0 : Int) ≤ i := by omega
  have b1 : (i : Int) ≤ n := by omega
  have b2 : ¬ c = i := by omega
  have b3 : ¬ c = i + 1 := by omega
  have b4 : (n : Int) + 1 ≤ c := by omega
  have b5 : ((i : Int) == (n : Int)) = false := by simp; omega
  have b6 : (i : Int) + 1 ≤ (n : Int) + 1 := by omega
  have b7 : decide ((c : Int) < (n : Int) + 1) = false := by simp; omega
  have b8 : ((n : Int) + 1 - ((i : Int) + 1)).toNat = n - i := by omega
  have b9 : n + 1 - (i + 1) = n - i := by omega
  unfold maxLen at hc63
  have HF := Lib.hid hfin
  clear hdl hl1 hcs h1 hu1 hv hg2 hv2 hz1 hg e1 e2 ht1 hfin
  go_enter Try.func36, Try.ntmps36
  go_wp2
  refine Ux.wp_region_plan (fun _ _ => True) (.q [0, 1, 2, 3, 4, 5, 6, 7] (.e 8 false false (.line [])))
    (by kernel_rfl) (by kernel_rfl) (by intro _ _ d _ _ h; cases d <;> exact h) ?hS ?_
  case hS => (intro c; cases c <;> (simp only [World.cell?_drew]; first | exact True.intro | (refine ⟨?_, ?_⟩ <;> assumption) | assumption | (repeat (first | assumption | (refine And.intro ?_ ?_)))))
  simp only [Ux.wpPlan, Ux.pickOps, Ux.keeps, List.getElem?_toArray, List.getElem?_cons_succ, List.getElem?_cons_zero]
  repeat (first
    | go_big_quiet_step (fail)
    | (with_reducible refine wpQuiet_nil ?_)
    | (refine Ux.quiet_held rfl ?_; apply Exists.intro; refine ⟨fun w' hS => ?_, ?_⟩; (focus ((try dsimp only at hS); go_simp; first | done | with_reducible rfl)); simp only [Act.put, List.setIfInBounds_toArray, List.set_cons_zero, List.set_cons_succ]))
  go_wp2
  go_ret
  exact ⟨rfl, HF.out, ht2⟩

set_option maxHeartbeats 1000000 in
set_option maxRecDepth 100000 in
theorem insertP_grow (g n c i vb : Nat) (cur : Array Value) (u : Value) (w : World) (hg : w.heap[g]? = some (.cells cur 59 (0, 0))) (hcs : cur.size = c) (hi : i < n) (hnc : n ≤ c) (hnc2 : c < n + 1) (hn31 : n ≤ 2147483648)
    (h1 : ∀ v ∈ (cur.toList.drop i).take (n - i), v.oneCell' = true) (hu1 : u.oneCell' = true) (hv : w.heap[vb]? = some (.cells #[u] 59 (0, 0))) :
    Calls Try.prog 36 #[.slice (some ⟨g, 0, none⟩) n c, .int .i64 i, .slice (some ⟨vb, 0, none⟩) 1 1] w fun e w' => ∃ c' rest, e = .returned (.slice (some ⟨w.heap.size, 0, none⟩) (n + 1) c') ∧ n + 1 ≤ c' ∧ c' ≤ maxLen ∧ (n + 1) + rest.length = c' ∧
      w'.heap[w.heap.size]? = some (.cells (cur.toList.take i ++ u :: ((cur.toList.drop i).take (n - i) ++ rest)).toArray 59 (0, 0)) ∧ Ux.Touch (fun _ => False) w w' := by
  obtain ⟨i0, hi0, hz0, hz1, hz2⟩ := info_parts infoP
  have hl1 : cur.toList.length = c := by simpa using hcs
  have hglt := Ux.lt_of_heap hg
  have hvlt := Ux.lt_of_heap hv
  have hdl : ((cur.toList.drop i).take (n - i)).length = n - i := by simp; omega
  obtain ⟨W1, c', cur1, hap, hb1, hs1, hc1, hc2, htk, ht1⟩ : ∃ (W1 : World) (c' : Nat) (cur1 : Array Value), (∀ ty, (Builtin.append_ #[60, 3] ty #[.slice (some ⟨g, 0, none⟩) i c, .int .i64 ((n : Int) + 1 - i)]).run Try.prog w = .ok (.slice (some ⟨w.heap.size, 0, none⟩) (n + 1) c') W1) ∧
      W1.heap[w.heap.size]? = some (.cells cur1 59 (0, 0)) ∧ cur1.size = c' ∧ n + 1 ≤ c' ∧ c' ≤ maxLen ∧ cur1.toList.take i = cur.toList.take i ∧ Ux.Touch (fun _ => False) w W1 := by
    have hbnd : (n + 1) * 8 ≤ 140737488355328 := by omega
    have key := fun ty => Ux.run_app_zeros (P := Try.prog) w 60 3 ty 59 i0 (.pointer none) .i64 .i64 Try.underlying60 Try.underlying3 hi0 hz0 (by omega) (some ⟨g, 0, none⟩) i c (n + 1 - i) (cur.toList.take i) (by simp [hz1]; omega)
      (fun j x hj => ⟨_, rfl, by
        rw [Addr.add_lit, cell_of_row w g _ cur 59 (0, 0) hg, Nat.zero_add]
        rw [List.getElem?_take] at hj
        split at hj
        · simpa using hj
        · cases hj⟩) (by omega) (by omega) (by simp only [maxLen]; omega) (by rw [hz2, show i + (n + 1 - i) = n + 1 by omega]; exact hbnd)
    rw [show i + (n + 1 - i) = n + 1 by omega] at key
    have hge := grownCap_ge w (n + 1) c 59
    obtain ⟨X, hX⟩ : ∃ X : Array Value, X = (cur.toList.take i).toArray ++ Builtin.zeroCells (.pointer none : Value).cells (n + 1 - i) ++ Builtin.zeroCells (.pointer none : Value).cells (grownCap w (n + 1) c 59 - (n + 1)) := ⟨_, rfl⟩
    rw [← hX] at key
    refine ⟨w.drew.alloc (.cells X 59), grownCap w (n + 1) c 59, X, fun ty => ?_, heap_alloc_new w.drew _, ?_, hge, grownCap_le_maxLen w (n + 1) c 59 (by simp only [maxLen]; omega), ?_, ((Ux.Touch.refl (fun _ => False) w).drew).alloc _⟩
    · rw [← key ty, show (n : Int) + 1 - i = ((n + 1 - i : Nat) : Int) by omega]
    · rw [hX]; simp [size_zeroCells, Value.cells]; omega
    · rw [hX]
      simp only [Array.toList_append, List.append_assoc]
      rw [List.take_append_of_le_length (by simp; omega), List.take_take, Nat.min_self]
  have hg1 := ht1.heap hg (fun f => f)
  have hv1 := ht1.heap hv (fun f => f)
  obtain ⟨W2, hcp1, hb2, ht2⟩ : ∃ W2, (∀ ty dc, (Builtin.copy_ #[60, 60] ty #[.slice (some ⟨w.heap.size, i, none⟩) (n + 1 - i) dc, .slice (some ⟨vb, 0, none⟩) 1 1]).run Try.prog W1 = .ok (.int .i64 1) W2) ∧
      W2.heap[w.heap.size]? = some (.cells (cur.toList.take i ++ u :: cur1.toList.drop (i + 1)).toArray 59 (0, 0)) ∧ Ux.Touch (fun _ => False) w W2 := by
    refine ⟨_, fun ty dc => ?_, setRow_heap W1 w.heap.size _ _ 59 (0, 0) hb1, ht1.setRow (fun h => absurd h (Nat.lt_irrefl _)) _⟩
    have := Ux.run_copy_own (P := Try.prog) W1 60 60 ty 59 Try.underlying60 oneP w.heap.size i (n + 1 - i) dc (some ⟨vb, 0, none⟩) 1 1 _ 59 hb1 [u] (by simp only [Nat.min_def, List.length_singleton]; split <;> omega)
      (fun j x hj => ⟨_, rfl, by
        rw [Addr.add_lit, cell_of_row _ vb _ #[u] 59 (0, 0) hv1]
        cases j with
        | zero => simpa using hj
        | succ j => simp at hj⟩) (by simp; omega) (fun x hx => by simp at hx; subst hx; exact hu1)
    rw [this]
    simp only [goInt, List.length_singleton, htk]
    simp
  have hg2 := ht2.heap hg (fun f => f)
  have hlen2 : (cur.toList.take i ++ u :: cur1.toList.drop (i + 1)).length = c' := by simp; omega
  obtain ⟨W3, hcp2, hb3, ht3⟩ : ∃ W3, (∀ ty dc sc, (Builtin.copy_ #[60, 60] ty #[.slice (some ⟨w.heap.size, i + 1, none⟩) (n - i) dc, .slice (some ⟨g, i, none⟩) (n - i) sc]).run Try.prog W2.drew = .ok (.int .i64 ((n : Int) - i)) W3) ∧
      W3.heap[w.heap.size]? = some (.cells (cur.toList.take i ++ u :: ((cur.toList.drop i).take (n - i) ++ cur1.toList.drop (n + 1))).toArray 59 (0, 0)) ∧ Ux.Touch (fun _ => False) w W3 := by
    refine ⟨_, fun ty dc sc => ?_, setRow_heap W2.drew w.heap.size _ _ 59 (0, 0) hb2, ht2.drew.setRow (fun h => absurd h (Nat.lt_irrefl _)) _⟩
    have := Ux.run_copy_own (P := Try.prog) W2.drew 60 60 ty 59 Try.underlying60 oneP w.heap.size (i + 1) (n - i) dc (some ⟨g, i, none⟩) (n - i) sc _ 59 hb2 ((cur.toList.drop i).take (n - i)) (by rw [hdl]; simp)
      (fun j x hj => ⟨_, rfl, by
        rw [Addr.add_lit]
        rw [cell_of_row W2.drew g (i + j) cur 59 (0, 0) hg2]
        rw [List.getElem?_take] at hj
        split at hj
        · rw [List.getElem?_drop] at hj; simpa using hj
        · cases hj⟩) (by rw [hdl]; simp only [List.size_toArray, hlen2]; omega) h1
    rw [hdl] at this
    rw [this]
    have e1 : (cur.toList.take i ++ u :: cur1.toList.drop (i + 1)).take (i + 1) = cur.toList.take i ++ [u] := by
      have hx : (cur.toList.take i).length = i := by simp; omega
      rw [List.take_append, hx]
      simp [List.take_take]
    have e2 : (cur.toList.take i ++ u :: cur1.toList.drop (i + 1)).drop (i + 1 + (n - i)) = cur1.toList.drop (n + 1) := by
      have hx : (cur.toList.take i).length = i := by simp; omega
      rw [List.drop_append, hx, show i + 1 + (n - i) - i = (n - i) + 1 by omega, List.drop_succ_cons, List.drop_drop, List.drop_eq_nil_of_le (by omega), List.nil_append, show i + 1 + (n - i) = n + 1 by omega]
    simp only [goInt, Int.ofNat_sub (Nat.le_of_lt hi), List.toList_toArray, e1, e2]
    simp
  have b0 : (0 : Int) ≤ i := by omega
  have b1 : (i : Int) ≤ n := by omega
  have b2 : ¬ c = i := by omega
  have b3 : ¬ c' = i := by omega
  have b33 : ¬ c' = i + 1 := by omega
  have b4 : (c : Int) < (n : Int) + 1 := by omega
  have b44 : (n : Int) ≤ c := by omega
  have b5 : ((i : Int) == (n : Int)) = false := by simp; omega
  have b6 : (i : Int) + 1 ≤ (n : Int) + 1 := by omega
  have b66 : (i : Int) ≤ (n : Int) + 1 := by omega
  have b7 : decide ((c : Int) < (n : Int) + 1) = true := by simp; omega
  have b8 : ((n : Int) + 1 - ((i : Int) + 1)).toNat = n - i := by omega
  have b9 : n + 1 - (i + 1) = n - i := by omega
  have hc3 : c' ≤ 9223372036854775807 := by unfold maxLen at hc2; exact hc2
  have hrl : (n + 1) + (cur1.toList.drop (n + 1)).length = c' := by simp; omega
  have HF := Lib.hid hb3
  have HX := Lib.hid hc2
  have HL := Lib.hid hrl
  have HA := Lib.hid hap
  clear hdl hl1 hcs h1 hu1 hv hz1 hg ht1 hg1 hv1 hg2 hb1 hb2 ht2 hb3 hc2 htk hz0 hz2 hi0 hs1 hlen2 hrl hap
  go_enter Try.func36, Try.ntmps36
  go_wp2_with (at_builtin; refine Lib.wpList_append_run _ rfl _ _ _ _ rfl _ _ rfl rfl _ _ (HA.out _) ?_)
  refine Ux.wp_region_plan (fun _ _ => True) (.q [0, 1, 2, 3, 4, 5, 6, 7] (.e 8 false false (.line [])))
    (by kernel_rfl) (by kernel_rfl) (by intro _ _ d _ _ h; cases d <;> exact h) ?hS ?_
  case hS => (intro c; cases c <;> (simp only [World.cell?_drew]; first | exact True.intro | (refine ⟨?_, ?_⟩ <;> assumption) | assumption | (repeat (first | assumption | (refine And.intro ?_ ?_)))))
  simp only [Ux.wpPlan, Ux.pickOps, Ux.keeps, List.getElem?_toArray, List.getElem?_cons_succ, List.getElem?_cons_zero]
  repeat (first
    | go_big_quiet_step (fail)
    | (with_reducible refine wpQuiet_nil ?_)
    | (refine Ux.quiet_held rfl ?_; apply Exists.intro; refine ⟨fun w' hS => ?_, ?_⟩; (focus ((try dsimp only at hS); go_simp; first | done | with_reducible rfl)); simp only [Act.put, List.setIfInBounds_toArray, List.set_cons_zero, List.set_cons_succ]))
  go_wp2
  go_ret
  exact ⟨_, _, rfl, hc1, HX.out, HL.out, HF.out, ht3⟩

set_option maxHeartbeats 1000000 in
set_option maxRecDepth 100000 in
theorem insertP_end (v : Value) (n vb : Nat) (xs : List Value) (u : Value) (w : World) (hown : w.ownsRow 0 59 1 v n xs) (hn31 : n ≤ 2147483648)
    (hu1 : u.oneCell' = true) (hv : w.heap[vb]? = some (.cells #[u] 59 (0, 0))) :
    Calls Try.prog 36 #[v, .int .i64 n, .slice (some ⟨vb, 0, none⟩) 1 1] w fun e w' => ∃ v', e = .returned v' ∧ w'.ownsRow 0 59 1 v' (n + 1) (xs ++ [u]) ∧ Ux.Touch (fun k => v.ownBlock = some k) w w' ∧ (v'.ownBlock = v.ownBlock ∨ ∃ g, v'.ownBlock = some g ∧ w.heap.size ≤ g) := by
  obtain ⟨i0, hi0, hz0, hz1, hz2⟩ := info_parts infoP
  have hbnd : (n + 1) * 8 ≤ 140737488355328 := by omega
  have hsrc : Src Try.prog 1 60 (.slice (some ⟨vb, 0, none⟩) 1 1) 1 [u] w := Src.ofSlice w Try.underlying60 ⟨vb, 0, none⟩ 1 1 [u] rfl (fun j x hj => by
    rw [Addr.add_lit, cell_of_row w vb _ #[u] 59 (0, 0) hv]
    cases j with
    | zero => simpa using hj
    | succ j => simp at hj) (fun x hx => by simp at hx; subst hx; exact hu1)
  obtain ⟨v', w1, hap, ho1, ht1, hb1, _⟩ := Ux.run_app (P := Try.prog) w 60 60 59 i0 (.pointer none) 1 8 Try.underlying60 hi0 hz0 hz1 hz2 rfl (by omega) v n xs hown (.slice (some ⟨vb, 0, none⟩) 1 1) 1 [u] hsrc (by simp only [maxLen]; omega) hbnd
  have HO := Lib.hid ho1
  have HA := Lib.hid hap
  rcases hown.2 with ⟨rfl, rfl⟩ | ⟨g, c, cur, rfl, _, hg, hnc, hcm, hcs, htk⟩
  · clear hown hsrc hi0 hz0 hz1 hz2 hap ho1 hv hbnd
    go_enter Try.func36, Try.ntmps36
    go_wp2_with (at_builtin; refine Lib.wpList_append_run _ rfl _ _ _ _ rfl _ _ rfl rfl _ _ HA.out ?_)
    go_ret
    exact ⟨_, rfl, HO.out, ht1, hb1⟩
  · have b0 : (0 : Int) ≤ n := by omega
    have b5 : ((n : Int) == (n : Int)) = true := by simp
    have HT := Lib.hid ht1
    have HB := Lib.hid hb1
    unfold maxLen at hcm
    clear hown hsrc hi0 hz0 hz1 hz2 hap ho1 hv hbnd htk hcs hg hb1 ht1
    by_cases hcn : c = n
    · subst hcn
      go_enter Try.func36, Try.ntmps36
      go_wp2_with (at_builtin; refine Lib.wpList_append_run _ rfl _ _ _ _ rfl _ _ rfl rfl _ _ HA.out ?_)
      go_ret
      exact ⟨_, rfl, HO.out, HT.out, HB.out⟩
    · go_enter Try.func36, Try.ntmps36
      go_wp2_with (at_builtin; refine Lib.wpList_append_run _ rfl _ _ _ _ rfl _ _ rfl rfl _ _ HA.out ?_)
      go_ret
      exact ⟨_, rfl, HO.out, HT.out, HB.out⟩

/-- what slices.Insert at one value gives -/
def InsPostP (w : World) (v : Value) (n i : Nat) (xs : List Value) (u : Value) (e : Ending) (w' : World) : Prop :=
  ∃ v', e = .returned v' ∧ w'.ownsRow 0 59 1 v' (n + 1) (xs.take i ++ u :: xs.drop i) ∧ Ux.Touch (fun k => v.ownBlock = some k) w w' ∧ (v'.ownBlock = v.ownBlock ∨ ∃ g, v'.ownBlock = some g ∧ w.heap.size ≤ g)

theorem insertP (v : Value) (n i vb : Nat) (xs : List Value) (u : Value) (w : World) (hown : w.ownsRow 0 59 1 v n xs) (hi : i ≤ n) (hn31 : n ≤ 2147483648)
    (h1 : ∀ x ∈ xs, x.oneCell' = true)
    (hu1 : u.oneCell' = true) (hv : w.heap[vb]? = some (.cells #[u] 59 (0, 0))) (hvg : v.ownBlock ≠ some vb) :
    Calls Try.prog 36 #[v, .int .i64 i, .slice (some ⟨vb, 0, none⟩) 1 1] w (InsPostP w v n i xs u) := by
  have hxl : xs.length = n := by simpa using hown.1
  by_cases hin : i = n
  · subst hin
    refine (insertP_end v i vb xs u w hown hn31 hu1 hv).mono fun e w' ⟨v', he, ho, ht, hb⟩ => ⟨v', he, ?_, ht, hb⟩
    rw [List.take_of_length_le (by omega), List.drop_eq_nil_of_le (by omega)]
    exact ho
  · obtain ⟨g, c, cur, rfl, hnc, hcm, hg, hcs, htk⟩ := Ux.own_pos hown (by omega)
    rw [Nat.mul_one] at hcs htk
    have hvg' : vb ≠ g := fun e => hvg (by rw [e]; rfl)
    have hd : (cur.toList.drop i).take (n - i) = xs.drop i := by rw [← htk, List.drop_take]
    have h1' : ∀ x ∈ (cur.toList.drop i).take (n - i), x.oneCell' = true := fun x hx => h1 x (List.mem_of_mem_drop (by rw [← hd]; exact hx))
    have ht : cur.toList.take i = xs.take i := by rw [← htk, List.take_take, Nat.min_eq_left (by omega)]
    have hl : (xs.take i ++ u :: xs.drop i).length = n + 1 := by simp; omega
    have hcl : cur.toList.length = c := by simpa using hcs
    by_cases hroom : n + 1 ≤ c
    · refine (insertP_shift g n c i vb cur u w hg hcs (by omega) hroom hcm h1' hu1 hv hvg').mono fun e w' ⟨he, hh, ht'⟩ => ⟨_, he, ⟨by simpa using hl, .inr ⟨g, c, _, rfl, Nat.zero_le _, hh, hroom, hcm, ?_, ?_⟩⟩, ht'.mono (fun k _ hk => by rw [hk]; rfl), .inl rfl⟩
      · simp; omega
      · simp only [hd, ht, Nat.mul_one, List.toList_toArray]
        rw [← List.cons_append, ← List.append_assoc, List.take_append_of_le_length (by omega), List.take_of_length_le (by omega)]
    · refine (insertP_grow g n c i vb cur u w hg hcs (by omega) hnc (by omega) hn31 h1' hu1 hv).mono fun e w' ⟨c', rest, he, hc1, hc2, hr, hh, ht'⟩ => ⟨_, he, ⟨by simpa using hl, .inr ⟨w.heap.size, c', _, rfl, Nat.zero_le _, hh, hc1, hc2, ?_, ?_⟩⟩, ht'.mono (fun k _ hk => hk.elim), .inr ⟨_, rfl, Nat.le_refl _⟩⟩
      · simp; omega
      · simp only [hd, ht, Nat.mul_one, List.toList_toArray]
        rw [← List.cons_append, ← List.append_assoc, List.take_append_of_le_length (by omega), List.take_of_length_le (by omega)]

end Go.Proofs.Ytdfgpminonpeaaa
