/- PART OF THE PROOF THAT THIS CLAIM HOLDS OF THE GIVEN PROGRAM, FOR EVERY INPUT THAT THE STATEMENT NAMES. No condition besides the statement's own. -/
import Derived.Test.YthkaifgepkfheaaContZ
import Derived.Test.YthkaifgepkfheaaRows
import Derived.WalkKit
import Derived.Handy
import Derived.Laws.EntriesVeiled
import Derived.WalkSpells
import Derived.WalkLawsBesides
import Derived.BigQuiet
import Derived.Deep.QuietTactic
import Derived.Deep.Cut
import Derived.Deep.DeepCutAuto
import Derived.Lib.Overlaps
import Derived.Laws.Externs
import Derived.Lib.Hide
import Derived.Test.YthkaifgepkfheaaUxPlanAllZ
import Derived.Test.YthkaifgepkfheaaUxTreeAllZ
import Derived.Deep.LoopGhost
namespace Go.Proofs.Ythkaifgepkfheaa
open Go.RowKit
-- imports: YthkaifgepkfheaaCont
open Ux.Trie (fnd Pr blk zero64)

/-- the maps of Build's first loop, as functions -/
def seenG (l : List Pr) : Int → Option Value := fun c => if c ∈ l.map (·.1) then some (.bool true) else none
def arr (b : List Int) : Value := .agg (b.map (Value.int .i32)).toArray
def ownG (l : List Pr) : Int → Option Value := fun k => if k ∈ l.map (fun p => p.1 / 64) then some (arr (blk (fnd l) k)) else none

theorem arr_zero : arr zero64 = .agg (Array.replicate 64 (.int .i32 0)) := by
  unfold arr zero64
  rw [List.map_replicate]
  rfl
theorem ownG_get (l : List Pr) (k : Int) : (ownG l k).getD (.agg (Array.replicate 64 (.int .i32 0))) = arr (blk (fnd l) k) := by
  unfold ownG
  split
  · rfl
  · rename_i h
    rw [← arr_zero, Ux.Trie.blk_off (ks := l.map fun p => p.1 / 64) (fun p hp => List.mem_map.2 ⟨p, hp, rfl⟩) k h]
    rfl
theorem take_snoc {l : List Pr} {i : Nat} {p : Pr} (h : l[i]? = some p) : l.take (i + 1) = l.take i ++ [p] := by rw [List.take_add_one, h]; rfl
theorem seen_step {l : List Pr} {i : Nat} {p : Pr} (h : l[i]? = some p) : (fun x => if x = p.1 then some (Value.bool true) else seenG (l.take i) x) = seenG (l.take (i + 1)) := by
  funext x
  unfold seenG
  rw [take_snoc h]
  by_cases e : x = p.1
  · simp [e]
  · have : ¬ x = p.1 := e
    simp [e]
theorem blk_set {f g : Int → Int} {c v : Int} (hg : ∀ x, g x = if x = c then v else f x) : blk g (c / 64) = (blk f (c / 64)).set (c % 64).toNat v := by
  apply List.ext_getElem?
  intro j
  by_cases hj : j < 64
  · rw [Ux.Trie.blk_get g _ hj, List.getElem?_set, hg]
    by_cases hjc : (c % 64).toNat = j
    · rw [if_pos (by omega), if_pos hjc, if_pos (by rw [Ux.Trie.blk_length]; omega)]
    · rw [if_neg (by omega), if_neg hjc, Ux.Trie.blk_get f _ hj]
  · rw [List.getElem?_eq_none (by rw [Ux.Trie.blk_length]; omega), List.getElem?_eq_none (by rw [List.length_set, Ux.Trie.blk_length]; omega)]
theorem blk_same {f g : Int → Int} {c v : Int} (hg : ∀ x, g x = if x = c then v else f x) {k : Int} (hk : k ≠ c / 64) : blk g k = blk f k := by
  apply List.ext_getElem?
  intro j
  by_cases hj : j < 64
  · rw [Ux.Trie.blk_get g _ hj, Ux.Trie.blk_get f _ hj, hg, if_neg (by omega)]
  · rw [List.getElem?_eq_none (by rw [Ux.Trie.blk_length]; omega), List.getElem?_eq_none (by rw [Ux.Trie.blk_length]; omega)]
theorem own_step {l : List Pr} {i : Nat} {p : Pr} (h : l[i]? = some p) (hn : p.1 ∉ (l.take i).map (·.1)) :
    (fun x => if x = p.1 / 64 then some (.agg (((blk (fnd (l.take i)) (p.1 / 64)).map (Value.int .i32)).set (p.1 % 64).toNat (.int .i32 p.2)).toArray) else ownG (l.take i) x) = ownG (l.take (i + 1)) := by
  have hf : ∀ x, fnd (l.take (i + 1)) x = if x = p.1 then p.2 else fnd (l.take i) x := fun x => by
    rw [take_snoc h]
    exact Ux.Trie.fnd_append _ p (fun q hq e => hn (List.mem_map.2 ⟨q, hq, e⟩)) x
  funext x
  unfold ownG
  by_cases e : x = p.1 / 64
  · subst e
    rw [if_pos rfl, if_pos (by rw [take_snoc h]; simp), blk_set hf]
    unfold arr
    rw [List.map_set]
  · rw [if_neg e, blk_same hf e, take_snoc h]
    simp [e]
theorem not_seen {l : List Pr} {c : Int} (h : (seenG l c).isSome = false) : c ∉ l.map (·.1) := by
  unfold seenG at h
  split at h
  · cases h
  · assumption
theorem apart_take {l : List Pr} {i : Nat} {p : Pr} (h : l[i]? = some p) (ha : Ux.Trie.apart (l.take i)) (hn : p.1 ∉ (l.take i).map (·.1)) : Ux.Trie.apart (l.take (i + 1)) := by
  rw [take_snoc h]
  exact Ux.Trie.apart_snoc ha fun q hq e => hn (List.mem_map.2 ⟨q, hq, e⟩)
theorem not_apart {l : List Pr} {i : Nat} {p : Pr} (h : l[i]? = some p) (hn : p.1 ∈ (l.take i).map (·.1)) : ¬ Ux.Trie.apart l := by
  intro ha
  obtain ⟨q, hq, e⟩ := List.mem_map.1 hn
  obtain ⟨j, hj, rfl⟩ := List.mem_take_iff_getElem.1 hq
  obtain ⟨hi, rfl⟩ := List.getElem?_eq_some_iff.1 h
  exact List.pairwise_iff_getElem.1 ha j i (by omega) hi (by omega) e

end Go.Proofs.Ythkaifgepkfheaa
