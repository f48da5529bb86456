/- PART OF THE PROOF THAT THIS CLAIM HOLDS OF THE GIVEN PROGRAM, FOR EVERY INPUT THAT THE STATEMENT NAMES. No condition besides the statement's own. -/
import Derived.Test.YthkaifgepkfheaaBfoundZ
import Derived.Test.YthkaifgepkfheaaShelfZ
import Derived.Test.YthkaifgepkfheaaRows
import Derived.WalkKit
import Derived.Handy
import Derived.Laws.EntriesVeiled
import Derived.WalkSpells
import Derived.WalkLawsBesides
import Derived.BigQuiet
import Derived.Deep.QuietTactic
import Derived.Deep.Cut
import Derived.Deep.DeepCutAuto
import Derived.Lib.Overlaps
import Derived.Laws.Externs
import Derived.Lib.Hide
import Derived.Test.YthkaifgepkfheaaUxPlanAllZ
import Derived.Test.YthkaifgepkfheaaUxTreeAllZ
import Derived.Deep.LoopGhost
namespace Go.Proofs.Ythkaifgepkfheaa
open Go.RowKit
-- imports: YthkaifgepkfheaaBfound YthkaifgepkfheaaShelf
open Go.Shelf Go.Maps
open Ux.Trie (Pr)

theorem sortsA (m : Nat) : AnyZI.SortsIn Try.prog Try.sortedA_ren Fence.wide m :=
  ⟨fun blk off cap ss W hH hblk hsz => callsIn_wide.2 (AnyM.slices_Sort_int Try.sortA blk off cap ss W hH hblk hsz),
   fun p cap W => callsIn_wide.2 (AnyM.slices_Sort_int_none Try.sortA p cap W)⟩

theorem keys19 (mb : Option Nat) (W : World) : Calls Try.prog 19 #[.map mb] W fun e w' => e = .returned (.func (.func 27) #[] #[.pointer (some ⟨W.heap.size, 0, none⟩)]) ∧ w' = W.alloc (.cells #[.map mb] 42) :=
  (callsIn_wide (n := 5)).1 (AnyZI.keys_in Try.keysA Fence.wide 5 trivial rfl mb W)
theorem keys20 (mb : Option Nat) (W : World) : Calls Try.prog 20 #[.map mb] W fun e w' => e = .returned (.func (.func 28) #[] #[.pointer (some ⟨W.heap.size, 0, none⟩)]) ∧ w' = W.alloc (.cells #[.map mb] 45) :=
  (callsIn_wide (n := 5)).1 (AnyZI.keys_in Try.keysB Fence.wide 5 trivial rfl mb W)

theorem sorted_rising {ss ks0 : List Int} (h : ks0.Nodup) (hp : ss.Perm ks0) : (ss.mergeSort fun x y => decide (x ≤ y)).Pairwise (· < ·) ∧ (ss.mergeSort fun x y => decide (x ≤ y)).Perm ks0 := by
  have h1 : (ss.mergeSort fun x y => decide (x ≤ y)).Perm ks0 := (List.mergeSort_perm _ _).trans hp
  have h2 : (ss.mergeSort fun x y => decide (x ≤ y)).Pairwise fun a b => decide (a ≤ b) = true := List.pairwise_mergeSort (fun a b c h h' => by simp at *; omega) (fun a b => by simp; omega) _
  have h3 : (ss.mergeSort fun x y => decide (x ≤ y)).Nodup := h1.nodup_iff.2 h
  refine ⟨?_, h1⟩
  refine List.Pairwise.imp₂ (fun a b hab hne => ?_) h2 h3
  have : a ≤ b := by simpa using hab
  have hne : a ≠ b := hne
  omega

/-- 'slices.Sorted' over a map's keys: what both uses share -/
theorem sorted18 (fn T : Nat) (hE : ∀ args w, (callFunc fn args).run Try.prog w = .ok (.enter fn args) w) {w : World} {b n : Nat} {g : Int → Option Value} {ks0 : List Int} (h : Ux.MapIs Try.prog 3 w b n (Ux.intF g)) (hnd : ks0.Nodup) (hm : ∀ x, x ∈ ks0 ↔ (Ux.intF g (.int .i64 x)).isSome = true) (hn : n ≤ 100000)
    (hG : ∀ D0 : DataW Value, w.ownsMap Try.prog 3 Ux.rawE b n D0 → SeqGives Fence.wide 2 Try.prog fn #[.pointer (some ⟨w.heap.size, 0, none⟩)] encZ (fun ss => ss.Perm (intKeys D0)) (Maps.size D0) (w.alloc (.cells #[.map (some b)] T))) :
    Calls Try.prog 18 #[.func (.func fn) #[] #[.pointer (some ⟨w.heap.size, 0, none⟩)]] (w.alloc (.cells #[.map (some b)] T)) fun e w' => ∃ (v : Value) (ks : List Int), e = .returned v ∧ ks.Perm ks0 ∧ ks.Pairwise (· < ·) ∧
      w'.ownsRow (w.heap.size + 1) 3 1 v ks.length (ks.map (Value.int .i64)) ∧ Ux.Touch (fun _ => False) w w' := by
  obtain ⟨D0, hD, hp, hs, hsn⟩ := h.keys keyed3 Try.underlying3 hnd hm
  have cS := AnyZI.sorted_in Try.sortedA Fence.wide 5 trivial trivial trivial trivial rfl (by omega) (sortsA _) (enters_of Try.func26 (by kernel_rfl) rfl) fn #[.pointer (some ⟨w.heap.size, 0, none⟩)] trivial hE _ _ (by unfold maxLen; omega) (by omega) _ (hG D0 hD)
  refine (callsIn_wide (n := 5)).1 (cS.mono ?_)
  rintro e w' ⟨v, ss, rfl, hS, hrow, _, hb⟩
  obtain ⟨r1, r2⟩ := sorted_rising hnd (hS.trans hp.symm)
  refine ⟨v, _, rfl, r2, r1, ?_, ?_⟩
  · have hl : (ss.mergeSort fun x y => decide (x ≤ y)).length = ss.length := (List.mergeSort_perm _ _).length_eq
    rw [hl]
    have e1 : (w.alloc (.cells #[.map (some b)] T)).heap.size = w.heap.size + 1 := by simp
    rw [e1] at hrow
    exact hrow
  · exact ((Ux.Touch.refl (fun _ => False) w).alloc _).trans (Ux.Touch.of_below hb) (fun _ _ h => h)

theorem sortedA18 {w : World} {b n : Nat} {g : Int → Option Value} {ks0 : List Int} (h : Ux.MapIs Try.prog 3 w b n (Ux.intF g)) (hnd : ks0.Nodup) (hm : ∀ x, x ∈ ks0 ↔ (Ux.intF g (.int .i64 x)).isSome = true) (hn : n ≤ 100000) :
    Calls Try.prog 18 #[.func (.func 27) #[] #[.pointer (some ⟨w.heap.size, 0, none⟩)]] (w.alloc (.cells #[.map (some b)] 42)) fun e w' => ∃ (v : Value) (ks : List Int), e = .returned v ∧ ks.Perm ks0 ∧ ks.Pairwise (· < ·) ∧
      w'.ownsRow (w.heap.size + 1) 3 1 v ks.length (ks.map (Value.int .i64)) ∧ Ux.Touch (fun _ => False) w w' :=
  sorted18 27 42 (enters_of Try.func27 (by kernel_rfl) rfl) h hnd hm hn fun D0 hD =>
    AnyZI.keys_gives (ρ := Try.keysA_ren) { Try.keysA with } Fence.wide _ trivial rfl (by omega) w.heap.size b n D0 _ (by simp) (by simp) (by
      have hbl := hD.lt
      obtain ⟨es, clock, hb, Ft, hs, hD⟩ := hD
      exact ⟨es, clock, (Below.heap_alloc _ _ b hbl).trans hb, Ft, hs, hD⟩)
theorem sortedB18 {w : World} {b n : Nat} {g : Int → Option Value} {ks0 : List Int} (h : Ux.MapIs Try.prog 3 w b n (Ux.intF g)) (hnd : ks0.Nodup) (hm : ∀ x, x ∈ ks0 ↔ (Ux.intF g (.int .i64 x)).isSome = true) (hn : n ≤ 100000) :
    Calls Try.prog 18 #[.func (.func 28) #[] #[.pointer (some ⟨w.heap.size, 0, none⟩)]] (w.alloc (.cells #[.map (some b)] 45)) fun e w' => ∃ (v : Value) (ks : List Int), e = .returned v ∧ ks.Perm ks0 ∧ ks.Pairwise (· < ·) ∧
      w'.ownsRow (w.heap.size + 1) 3 1 v ks.length (ks.map (Value.int .i64)) ∧ Ux.Touch (fun _ => False) w w' :=
  sorted18 28 45 (enters_of Try.func28 (by kernel_rfl) rfl) h hnd hm hn fun D0 hD =>
    AnyZI.keys_gives (ρ := Try.keysB_ren) { Try.keysB with } Fence.wide _ trivial rfl (by omega) w.heap.size b n D0 _ (by simp) (by simp) (by
      have hbl := hD.lt
      obtain ⟨es, clock, hb, Ft, hs, hD⟩ := hD
      exact ⟨es, clock, (Below.heap_alloc _ _ b hbl).trans hb, Ft, hs, hD⟩)

theorem keys_row {w : World} {v : Value} {ks : List Int} {base : Nat} (h : w.ownsRow base 3 1 v ks.length (ks.map (Value.int .i64))) : ∃ (gk : Nat) (ak : Option Addr) (ck : Nat), v = .slice ak ks.length ck ∧ base ≤ gk ∧
    ∀ (j : Nat) (x : Int), ks[j]? = some x → ak = some ⟨gk, 0, none⟩ ∧ w.cell? ⟨gk, j, none⟩ = some (.int .i64 x) := by
  rcases h.2 with ⟨hv, h0⟩ | ⟨g, cap, cur, hv, hb, hh, _, _, _, ht⟩
  · refine ⟨base, none, 0, by rw [hv, h0], Nat.le_refl _, fun j x hj => ?_⟩
    have : ks = [] := List.eq_nil_of_length_eq_zero h0
    subst this
    simp at hj
  · refine ⟨g, _, cap, hv, hb, fun j x hj => ⟨rfl, ?_⟩⟩
    exact Ux.row_cell (xs := ks.map (Value.int .i64)) hh ht j _ (by rw [List.getElem?_map, hj]; rfl)

theorem at_step {w5 : World} {q : Nat} {done : List Int} {bl : List (List Int)} {G : Int → Option Value} {f : Int → Int} {k : Int} {i0 : Nat} (hm : Ux.MapIs Try.prog 3 w5 q (done.length + 1) (Ux.upd (Ux.intF G) (.int .i64 k) (.int .i64 i0)))
    (h2 : ∀ k ∈ done, ∃ i : Nat, G k = some (.int .i64 i) ∧ bl[i]? = some (Ux.Trie.blk f k)) (h3 : ∀ k, k ∉ done → G k = none) (hi : bl[i0]? = some (Ux.Trie.blk f k)) :
    ∃ G, Ux.MapIs Try.prog 3 w5 q (done ++ [k]).length (Ux.intF G) ∧ (∀ x ∈ done ++ [k], ∃ i : Nat, G x = some (.int .i64 i) ∧ bl[i]? = some (Ux.Trie.blk f x)) ∧ ∀ x, x ∉ done ++ [k] → G x = none := by
  refine ⟨_, by rw [List.length_append]; exact hm.intF, fun x hx => ?_, fun x hx => ?_⟩
  · by_cases e : x = k
    · subst e
      exact ⟨i0, by simp, hi⟩
    · rw [List.mem_append, List.mem_singleton] at hx
      obtain ⟨i, h, h'⟩ := h2 x (hx.resolve_right e)
      exact ⟨i, by rw [if_neg e]; exact h, h'⟩
  · rw [List.mem_append, List.mem_singleton] at hx
    rw [if_neg (fun e => hx (.inr e))]
    exact h3 x (fun e => hx (.inl e))
theorem addB_in {bl : List (List Int)} {b : List Int} (h : b ∈ bl) : Ux.Trie.addB bl b = bl := by unfold Ux.Trie.addB; rw [if_pos h]
theorem addB_out {bl : List (List Int)} {b : List Int} (h : b ∉ bl) : Ux.Trie.addB bl b = bl ++ [b] := by unfold Ux.Trie.addB; rw [if_neg h]
theorem addAll_length {α : Type} [DecidableEq α] : ∀ (l bl : List α), (Ux.Trie.addAll bl l).length ≤ bl.length + l.length
  | [], bl => by simp [Ux.Trie.addAll]
  | b :: l, bl => by
    rw [Ux.Trie.addAll_cons]
    refine Nat.le_trans (addAll_length l _) ?_
    unfold Ux.Trie.addB
    split <;> simp <;> omega
theorem key_range {l : List Pr} (h : ∀ p ∈ l, Ux.Trie.may p = true) {k : Int} (hk : k ∈ keys0 l) : 0 ≤ k ∧ k ≤ 17412 := by
  obtain ⟨p, hp, rfl⟩ := List.mem_map.1 ((keys0_mem l k).1 hk)
  have := h p hp
  unfold Ux.Trie.may at this
  simp only [Bool.and_eq_true, decide_eq_true_eq] at this
  omega

end Go.Proofs.Ythkaifgepkfheaa
