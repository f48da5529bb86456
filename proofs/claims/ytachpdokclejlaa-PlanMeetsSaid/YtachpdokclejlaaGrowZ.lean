/- PART OF THE PROOF THAT PlanMeetsSaid HOLDS OF THE GIVEN PROGRAM, FOR EVERY INPUT THAT THE STATEMENT NAMES. No condition besides the statement's own. -/
import Derived.Test.YtachpdokclejlaaConjZ
import Derived.Test.YtachpdokclejlaaRows
import Derived.WalkKit
import Derived.Handy
import Derived.WalkSpells
import Derived.WalkLawsBesides
import Derived.BigQuiet
import Derived.Deep.QuietTactic
import Derived.Deep.Cut
import Derived.Laws.Externs
import Derived.Lib.Hide
import Derived.Lib.MinMaxS
import Derived.Test.YtachpdokclejlaaUxPlanZ
import Derived.Test.YtachpdokclejlaaUxHeapZ
import Derived.Test.YtachpdokclejlaaUxOrdZ
namespace Go.Proofs.Ytachpdokclejlaa
open Go.RowKit
-- import: YtachpdokclejlaaConj
/-- a condition's six cells -/
def nod (k op : Int) (s s2 : ByteArray) (n : Int) (v : Value) : List Value := [.int .i64 k, .int .i64 op, .string s, .string s2, .int .i64 n, v]
def nod0 : Value := .agg (nod 0 0 ⟨#[]⟩ ⟨#[]⟩ 0 (.slice none 0 0)).toArray
theorem infoN : (Try.prog.info? 31).map (fun i => (i.zero, i.size, i.bytes)) = some (some nod0, 6, 80) := by
  kernel_rfl

set_option maxHeartbeats 1000000 in
theorem grow35 (w : World) : Calls Try.prog 35 #[.slice none 0 0, .int .i64 2] w fun e w' => ∃ v, e = .returned v ∧ w'.ownsRow 0 31 6 v 0 [] ∧ Ux.Touch (fun _ => False) w w' ∧ (∀ b, v.ownBlock = some b → w.heap.size ≤ b) := by
  obtain ⟨i0, hi0, hz0, hz1, hz2⟩ := info_parts infoN
  obtain ⟨W1, c', hap, hc1, hc2, hown, ht1⟩ : ∃ (W1 : World) (c' : Nat), (∀ ty, (Builtin.append_ #[29, 3] ty #[.slice none 0 0, .int .i64 2]).run Try.prog w = .ok (.slice (some ⟨w.heap.size, 0, none⟩) 2 c') W1) ∧
      2 ≤ c' ∧ c' ≤ maxLen ∧ W1.ownsRow 0 31 6 (.slice (some ⟨w.heap.size, 0, none⟩) 0 c') 0 [] ∧ Ux.Touch (fun _ => False) w W1 := by
    have key := fun ty => Ux.run_app_zeros (P := Try.prog) w 29 3 ty 31 i0 nod0 .i64 .i64 Try.underlying29 Try.underlying3 hi0 hz0 (by omega) none 0 0 2 [] (by simp)
      (fun j x hj => by simp at hj) (by omega) (by omega) (by simp only [maxLen]; omega) (by rw [hz2]; decide)
    have hge : 2 ≤ grownCap w 2 0 31 := grownCap_ge w 2 0 31
    have hcm : grownCap w 2 0 31 ≤ maxLen := grownCap_le_maxLen w 2 0 31 (by simp only [maxLen]; omega)
    refine ⟨_, _, key, hge, hcm, ⟨rfl, .inr ⟨w.heap.size, _, _, rfl, Nat.zero_le _, heap_alloc_new w.drew _, Nat.zero_le _, hcm, ?_, by simp⟩⟩, ((Ux.Touch.refl (fun _ => False) w).drew).alloc _⟩
    have : nod0.cells.size = 6 := rfl
    simp [size_zeroCells, this]
    omega
  have HA := Lib.hid hap
  have HO := Lib.hid hown
  have HT := Lib.hid ht1
  unfold maxLen at hc2
  clear hap hown ht1 hi0 hz0 hz1 hz2
  go_enter Try.func35, Try.ntmps35
  go_wp2_with (at_builtin; refine Lib.wpList_append_run _ rfl _ _ _ _ rfl _ _ rfl rfl _ _ (HA.out _) ?_)
  go_returns
  exact ⟨_, rfl, HO.out, HT.out, fun b hb => by cases hb; exact Nat.le_refl _⟩

/-- a slice of one node: its source -/
theorem srcN (g : Nat) (cur : Array Value) (c : Nat) (w : World) (hg : w.heap[g]? = some (.cells cur 31 (0, 0))) (hs : cur.size = 6) (h1 : ∀ v ∈ cur.toList, v.oneCell' = true) : Src Try.prog 6 29 (.slice (some ⟨g, 0, none⟩) 1 c) 1 cur.toList w :=
  Src.ofSlice _ Try.underlying29 ⟨g, 0, none⟩ 1 c cur.toList (by simp [hs]) (fun j u hj => by
    rw [Addr.add_lit, Nat.zero_add, cell_of_row w g _ cur 31 (0, 0) hg]
    simpa using hj) h1

set_option maxHeartbeats 2000000 in
set_option maxRecDepth 100000 in
theorem concat22 (w : World) (g ga gb : Nat) (ca cb : Array Value) (hg : w.heap[g]? = some (.cells #[.slice (some ⟨ga, 0, none⟩) 1 1, .slice (some ⟨gb, 0, none⟩) 1 1] 29 (0, 0)))
    (ha : w.heap[ga]? = some (.cells ca 31 (0, 0))) (hb : w.heap[gb]? = some (.cells cb 31 (0, 0))) (ha6 : ca.size = 6) (hb6 : cb.size = 6) (ha1 : ∀ v ∈ ca.toList, v.oneCell' = true) (hb1 : ∀ v ∈ cb.toList, v.oneCell' = true) :
    Calls Try.prog 22 #[.slice (some ⟨g, 0, none⟩) 2 2] w fun e w' => ∃ v, e = .returned v ∧ w'.ownsRow 0 31 6 v 2 (ca.toList ++ cb.toList) ∧ Ux.Touch (fun _ => False) w w' := by
  have hc0 : w.cell? ⟨g, 0, none⟩ = some (.slice (some ⟨ga, 0, none⟩) 1 1) := by rw [cell_of_row w g 0 _ 29 (0, 0) hg]; rfl
  have hc1 : w.cell? ⟨g, 1, none⟩ = some (.slice (some ⟨gb, 0, none⟩) 1 1) := by rw [cell_of_row w g 1 _ 29 (0, 0) hg]; rfl
  have HH := Lib.hid (And.intro ha hb)
  have H6 := Lib.hid (And.intro ha6 hb6)
  have H1 := Lib.hid (And.intro ha1 hb1)
  clear ha hb ha6 hb6 ha1 hb1 hg
  go_enter Try.func22, Try.ntmps22
  go_wp2
  refine wp_loop_rounds 3 ?_
  repeat any_goals (rw [rounds_succ]; go_wp2_with fail)
  refine (grow35 _).mono ?_
  rintro e w1 ⟨v, rfl, ho, ht, hf⟩
  have c0 := ht.cell hc0 (fun f => f)
  have c1 := ht.cell hc1 (fun f => f)
  obtain ⟨ha, hb⟩ := HH.out
  obtain ⟨ha6, hb6⟩ := H6.out
  obtain ⟨ha1, hb1⟩ := H1.out
  have hgl := block_lt_of_cell hc0
  have hal := Ux.lt_of_heap ha
  have hbl := Ux.lt_of_heap hb
  simp only [] at hgl
  have hw1 := ht.size
  obtain ⟨i0, hi0, hz0, hz1, hz2⟩ := info_parts infoN
  obtain ⟨v2, w2, hap, ho2, ht2, hb2, _⟩ := Ux.run_app (P := Try.prog) w1 29 29 31 i0 nod0 6 80 Try.underlying29 hi0 hz0 hz1 hz2 rfl (by omega) v 0 [] ho (.slice (some ⟨ga, 0, none⟩) 1 1) 1 ca.toList (srcN ga ca 1 w1 (ht.heap ha (fun f => f)) ha6 ha1) (by simp only [maxLen]; omega) (by omega)
  have hf2 : ∀ b, v2.ownBlock = some b → w.heap.size ≤ b := fun b hb => by
    rcases hb2 with h | ⟨g', h, hg'⟩
    · rw [h] at hb; exact hf b hb
    · rw [h] at hb; cases hb; omega
  have d0 := ht2.cell c0 (fun h => by have := hf _ h; simp only [] at this; omega)
  have d1 := ht2.cell c1 (fun h => by have := hf _ h; simp only [] at this; omega)
  obtain ⟨v3, w3, hap3, ho3, ht3, hb3, _⟩ := Ux.run_app (P := Try.prog) w2 29 29 31 i0 nod0 6 80 Try.underlying29 hi0 hz0 hz1 hz2 rfl (by omega) v2 1 ca.toList ho2 (.slice (some ⟨gb, 0, none⟩) 1 1) 1 cb.toList (srcN gb cb 1 w2 (ht2.heap (ht.heap hb (fun f => f)) (fun h => by have := hf _ h; omega)) hb6 hb1) (by simp only [maxLen]; omega) (by omega)
  have HA := Lib.hid hap
  have HA3 := Lib.hid hap3
  have HT : Ux.Touch (fun _ => False) w w3 := (ht.trans ht2 (fun i hi h => by have := hf _ h; omega)).trans ht3 (fun i hi h => by have := hf2 _ h; omega)
  have HTT := Lib.hid HT
  have HO := Lib.hid ho3
  clear ha hb ha6 hb6 ha1 hb1 hi0 hz0 hz1 hz2 hap hap3 HT ho2 ho3 ht2 ht3 hb2 hb3 hf hf2 ho ht hgl hal hbl hw1 HH H6 H1 hc0 hc1
  go_wp2
  refine wp_loop_rounds 3 ?_
  rw [rounds_succ]
  go_wp2_with (at_builtin; refine Lib.wpList_append_run _ rfl _ _ _ _ rfl _ _ rfl rfl _ _ HA.out ?_)
  rw [rounds_succ]
  go_wp2_with (at_builtin; refine Lib.wpList_append_run _ rfl _ _ _ _ rfl _ _ rfl rfl _ _ HA3.out ?_)
  rw [rounds_succ]
  go_wp2
  go_returns
  exact ⟨_, rfl, HO.out, HTT.out⟩
end Go.Proofs.Ytachpdokclejlaa
